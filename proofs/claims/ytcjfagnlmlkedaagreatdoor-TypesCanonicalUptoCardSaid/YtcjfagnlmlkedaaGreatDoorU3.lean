/- The claim's texts, part U3: contracts of the functions that the statement reaches, and what they say of the data. -/
import Derived.Test.YtcjfagnlmlkedaaGreatDoorU2
set_option maxRecDepth 100000
set_option maxHeartbeats 8000000
set_option linter.all false
namespace Go.Proofs.YtcjfagnlmlkedaaGreatDoor
open Go.Proofs.Tryz
open Go.RowKit
theorem K2.of_kbg {p g:Nat} {w w':World} (h:Kb g w w'):K2 p g w w':=⟨h.os,h.tape,h.output,h.size,fun k hk _ h2=>h.block k hk h2⟩
theorem K2.lower {p g:Nat} {w w' w'':World} (h:Below w.heap.size w w') (h2:K2 p g w' w''):K2 p g w w'':=(K2.of_below h).trans h2
theorem K2.kp {p g:Nat} {w w':World} {v v':Value} {B:Nat} (hk:Kp v v' w w') (hb:Below B w w') (hv:v.ownBlock=none):K2 p g w w':=⟨hb.os,hb.tape,hb.output,hb.size,fun k hk2 _ _=>hk.block k hk2 (by rw [hv];intro e;cases e)⟩
theorem Sl.kb {α :Type} {R:Rep α} {S:Blk} {w w':World} {a:Option Addr} {n c g:Nat} {l:List α} (h:Sl R S w a n c l) (hk:Kb g w w') (hg:∀ q,S q→q≠g):Sl R S w' a n c l:=h.frame fun q hq hlt=>hk.block q hlt (hg q hq)
def bdC (k:Value) (t:Value):List Value:=[.int .i64 1,.string nnS,k,t,.string ⟨#[]⟩,.slice none 0 0,.string ⟨#[]⟩]
theorem bd3_rd (S:Blk) (w:World):RBnd.rd S w (bdC (.int .i64 3) (.slice none 0 0)) bd3:=⟨_,_,rfl,⟨none,0,rfl,Sl.empty _ _ _⟩,⟨none,0,rfl,Sl.empty _ _ _⟩⟩
theorem eqn_put {w:World} {bs g cg ct:Nat} {rest:List Value} {at_:Option Addr} (hS:Bx w bs 268 [.slice (some ⟨g,0,none⟩) 1 cg,.slice none 0 0,.int .i64 1]) (hX:Bx w g 271 (.int .i64 (-3) :: .slice at_ 1 ct :: rest)) (hr:Sl kA7 All w at_ 1 ct [⟨nnS,1⟩]) (hne:bs≠g) (E:Env w) :
 Calls Tryz.prog 345 #[.pointer (some ⟨bs,0,none⟩),.string nnS,.agg #[.int .i64 3,.slice none 0 0],.int .i64 0] w fun e w'=>e= .returned (.int .i64 0)∧∃ a' c' a2 c2,Bx w' g 271 (.int .i64 0 :: .slice a' 0 c' :: rest)∧Bx w' bs 268 [.slice (some ⟨g,0,none⟩) 1 cg,.slice a2 1 c2,.int .i64 1]∧Sl RBnd (fun q=>w.heap.size≤q) w' a2 1 c2 [bd3]∧K2 bs g w w':=by
 have HS:=hJ hS;have HX:=hJ hX;have HR:=hJ hr;have HE:=hJ (fun (W:World) (hW:Below w.heap.size w W)=>E.below hW);have hsl:=hS.lt;have hgl:=hX.lt;clear hS hX hr E;obtain ⟨B0,ya,yb,hW0⟩:=box2 w 9 [.string nnS] 40 [.int .i64 3,.slice none 0 0];have xa0:=box0 ya 0 _ rfl;have xb0:=box0 yb 0 _ rfl;have xb1:=box0 yb 1 _ rfl;have bka:Bx _ _ _ _:=ya;have bkb:Bx _ _ _ _:=yb;clear ya yb;have HV:=hJ (kCM ⟨3,[]⟩ none 0 0 _ (Sl.empty kA7 All _) (fun t h=>by cases h) (HE.out _ B0.out));rw [show kAB ⟨3,[]⟩=true from by kernel_rfl] at HV;have HA:=hJ bka;have HB:=hJ bkb;have hmf:∀ (fn:Fn) (first cap:Array Value) (w:World),(Instr.makeFunc fn first cap).run Tryz.prog w= .ok (.func fn first cap) w:=fun _ _ _ _=>rfl
 clear bka bkb;go_enter func345,ntmps345
 go_wp2_with fail
 refine (HV.out).mono ?_;rintro e w1 ⟨rfl,hb⟩;have HW:=hJ (B0.out.trans (hb.mono B0.out.size));replace HA:=hJ (HA.out.below hb HA.out.lt);replace HB:=hJ (HB.out.below hb HB.out.lt);replace HS:=hJ (HS.out.below HW.out hsl);replace HX:=hJ (HX.out.below HW.out hgl);replace HR:=hJ (HR.out.below HW.out);have x0:=HA.out.cell 0 _ rfl;have y0:=HB.out.cell 0 _ rfl;have y1:=HB.out.cell 1 _ rfl;have s0:=HS.out.cell 0 _ rfl;have s1:=HS.out.cell 1 _ rfl;have hz1:=HW.out.size;have hsl1:=HS.out.lt;have hgl1:=HX.out.lt;have hal1:=HA.out.lt;have hbl1:=HB.out.lt;clear hb xa0 xb0 xb1 HV hW0 B0
 go_wp2_with fail
 refine wp_loop_rounds 1 ?_;rw [rounds_succ]
 go_wp2_with fail
 obtain ⟨W2,hW2⟩:∃ q,(w1.alloc (.cells (bdC (.int .i64 3) (.slice none 0 0)).toArray 42)).alloc (.cells #[.slice (some ⟨w1.heap.size,0,none⟩) 1 1] 36)=q:=⟨_,rfl⟩
 have HB12:Hid (Below w1.heap.size w1 W2):=hJ (by rw [← hW2];exact ((zB _ _).alloc (zR _) _).alloc (by simp) _);have hbd:W2.heap[w1.heap.size]? =some (.cells (bdC (.int .i64 3) (.slice none 0 0)).toArray 42 (0,0)):=by rw [← hW2];exact (Bx.fresh w1 _ _).alloc _
 have HO:Hid (Bx W2 (w1.heap.size+1) 36 [.slice (some ⟨w1.heap.size,0,none⟩) 1 1]):=hJ (by rw [← hW2];have:=Bx.fresh (w1.alloc (.cells (bdC (.int .i64 3) (.slice none 0 0)).toArray 42)) 36 [.slice (some ⟨w1.heap.size,0,none⟩) 1 1];simpa using this);have HD:Hid (Sl RBnd All W2 (some ⟨w1.heap.size,0,none⟩) 1 1 [bd3]):=hJ (Sl.single (cs:=bdC (.int .i64 3) (.slice none 0 0)) hbd (bd3_rd All W2) trivial);have HBD:Hid (Bx W2 w1.heap.size 42 (bdC (.int .i64 3) (.slice none 0 0))):=hJ hbd;have HW2:=hJ (HW.out.trans (HB12.out.mono hz1));replace HA:=hJ (HA.out.below HB12.out hal1);replace HS:=hJ (HS.out.below HB12.out hsl1);replace HX:=hJ (HX.out.below HB12.out hgl1);replace HR:=hJ (HR.out.below HB12.out);have HP:=hJ (eqn_put1 HX.out HR.out HA.out HO.out HD.out (HE.out _ HW2.out));replace s0:=HS.out.cell 0 _ rfl;have hz2:=HB12.out.size;rw [show ((w1.alloc (.cells #[.int .i64 1,.string nnS,.int .i64 3,.slice none 0 0,.string ⟨#[]⟩,.slice none 0 0,.string ⟨#[]⟩] 42)).alloc (.cells #[.slice (some ⟨w1.heap.size,0,none⟩) 1 1] 36))=W2 from hW2];clear hW2 hbd x0 y0 y1 s1 HB;refine wp_loop_rounds 2 ?_;rw [rounds_succ]
 go_wp2_with fail
 refine HP.out.mono ?_;rintro e w3 ⟨rfl,a',c',hx3,hk3⟩;have HX3:=hJ hx3;have HK3:=hJ hk3;have HS3:=hJ (HS.out.kb hk3 hne);have HO3:=hJ (HO.out.kb hk3 (by omega));have HD3:=hJ (HBD.out.kb hk3 (by omega));have HK2:Hid (K2 bs g w w3):=hJ (K2.lower HW2.out (K2.of_kbg hk3));have hz3:=hk3.size;have hsl3:=HS3.out.lt;have hgl3:=HX3.out.lt;replace s0:=HS3.out.cell 0 _ rfl;clear hx3 hk3 HX HS HO HBD HD HR HA HP HW HE HW2 HB12 hsl1 hgl1 hal1 hbl1
 go_wp2_with fail
 rw [rounds_succ];have s1:=HS3.out.cell 1 _ rfl;have o0:=HO3.out.cell 0 _ rfl;have d0:=HD3.out.cell 0 _ rfl;have d1:=HD3.out.cell 1 _ rfl;have d2:=HD3.out.cell 2 _ rfl;have d3:=HD3.out.cell 3 _ rfl;have d4:=HD3.out.cell 4 _ rfl;have d5:=HD3.out.cell 5 _ rfl;have d6:=HD3.out.cell 6 _ rfl;have f1:=HS3.out.fz 1
 have HFin:Hid (∀ (w5:World) (a5:Option Addr) (m5 c5:Nat),Own RBnd 42 (fun _=>False) w5 w3.heap.size (.slice a5 m5 c5) [bd3]→Below w3.heap.size w3 w5→∃ a' c' a2 c2,Bx (w5.setCell ⟨bs,1,none⟩ (.slice a5 m5 c5)) g 271 (.int .i64 0 :: .slice a' 0 c' :: rest)∧Bx (w5.setCell ⟨bs,1,none⟩ (.slice a5 m5 c5)) bs 268 [.slice (some ⟨g,0,none⟩) 1 cg,.slice a2 1 c2,.int .i64 1]∧Sl RBnd (fun q=>w.heap.size≤q) (w5.setCell ⟨bs,1,none⟩ (.slice a5 m5 c5)) a2 1 c2 [bd3]∧K2 bs g w (w5.setCell ⟨bs,1,none⟩ (.slice a5 m5 c5))):=hJ (fun w5 a5 m5 c5 ho hB5=>by
  obtain ⟨a6,c6,e6,hs6⟩:=ho.sl;rw [Value.slice.injEq] at e6;obtain ⟨rfl,rfl,rfl⟩:=e6;refine ⟨a',c',a5,c5,(HX3.out.below hB5 hgl3).other (by show bs≠g;exact hne),(HS3.out.below hB5 hsl3).set 1 _,?_,(HK2.out.trans (K2.of_below hB5)).trans (K2.set w5 1 _)⟩;have hs6:Sl RBnd (fun k=>False∨w3.heap.size≤k) w5 a5 1 c5 [bd3]:=hs6;exact (hs6.frame fun q hq _=>kAA (by show bs≠q;have hq:w3.heap.size≤q:=hq.elim False.elim id;omega)).mono (fun q hq _=>by have hq:w3.heap.size≤q:=hq.elim False.elim id;omega))
 clear HX3 HK3 HO3 HD3 HK2
 go_wp2_with fail
 go_region_law (first
  | (refine kEW kCS rfl (.tmp 64) (.tmp 68) rfl w3.heap.size (.slice none 0 0) [] rfl (Own.nil RBnd _ (fun _=>False) _ _) w3.heap.size bd3 [.int .i64 1,.string nnS,.int .i64 3,.slice none 0 0,.string ⟨#[]⟩,.slice none 0 0,.string ⟨#[]⟩] rfl ?ry ?rc ?rl ?rm ?rb ?_
     case ry=>first | exact bd3_rd _ _
     case rc=>first | exact kA3 42 (by (simp only [kAJ,kAF,Array.getElem?_push,Array.size_push];simp))
     case rl=>first | (simp;done)
     case rm=>first | (unfold maxLen;simp;done)
     case rb=>first | (simp;done)
     intro v5 w5 hown5 hb5 hk5;have hB5:Below w3.heap.size w3 w5:=Below.trans (by go_grown) hb5;obtain ⟨a5,m5,c5,rfl⟩:=hown5.shape;have HX5:=HS3.out.below hB5 hsl3;have u0:=HX5.cell 0 _ rfl;have u1:=HX5.cell 1 _ rfl;have u2:=HX5.fz 1))
 all_goals
  have hown5:Own RBnd 42 (fun _=>False) w5 w3.heap.size (.slice a5 m5 c5) [bd3]:=hown5;have HR:=hJ (HFin.out w5 a5 m5 c5 hown5 hB5);clear hown5 hB5 hb5 hk5 HX5
  go_wp2_with fail
  go_ret;exact ⟨rfl,HR.out⟩
def PutEnd (w w':World) (bs g cg:Nat) (rest:List Value):Prop:=∃ a' c' a2 c2,Bx w' g 271 (.int .i64 0 :: .slice a' 0 c' :: rest)∧Bx w' bs 268 [.slice (some ⟨g,0,none⟩) 1 cg,.slice a2 1 c2,.int .i64 1]∧Sl RBnd (fun q=>w.heap.size≤q) w' a2 1 c2 [bd3]∧K2 bs g w w'
theorem PutEnd.lower {w W w':World} {bs g cg:Nat} {rest:List Value} (h:PutEnd W w' bs g cg rest) (hb:Below w.heap.size w W):PutEnd w w' bs g cg rest :=
 let ⟨a',c',a2,c2,h1,h2,h3,h4⟩:=h
 ⟨a',c',a2,c2,h1,h2,h3.mono (fun q hq _=>zE hb.size hq),K2.lower hb h4⟩
theorem eqn_unit {w:World} {bs g cg ct:Nat} {mb:Option Nat} {rest:List Value} {at_:Option Addr} (hS:Bx w bs 268 [.slice (some ⟨g,0,none⟩) 1 cg,.slice none 0 0,.int .i64 1]) (hX:Bx w g 271 (.int .i64 (-3) :: .slice at_ 1 ct :: .map mb :: .int .i64 1 :: .bool false :: rest)) (hr:Sl kA7 All w at_ 1 ct [⟨nnS,1⟩]) (hne:bs≠g) (E:Env w) :
 Calls Tryz.prog 302 #[.pointer (some ⟨bs,0,none⟩),.int .i64 0,.agg #[.string nnS,.int .i64 1]] w fun e w'=>e= .returned (.int .i64 0)∧PutEnd w w' bs g cg (.map mb :: .int .i64 1 :: .bool false :: rest):=by
 have HS:=hJ hS;have HX:=hJ hX;have HR:=hJ hr;have HE:=hJ (fun (W:World) (hW:Below w.heap.size w W)=>E.below hW);have hsl:=hS.lt;have hgl:=hX.lt;obtain ⟨b,off,rfl,hbW,_⟩:=hr.form 0 (Nat.lt_succ_self 0);obtain ⟨c0,c1⟩:=hr.coef 0 (Nat.lt_succ_self 0);have c0:w.cell? ⟨b,off,none⟩=some (.string nnS):=c0;have c1:w.cell? ⟨b,off+1,none⟩=some (.int .i64 1):=c1;have s0:=hS.cell 0 _ rfl;have x0:=hX.cell 0 _ rfl;have x1:=hX.cell 1 _ rfl;have x2:=hX.cell 2 _ rfl;have x3:=hX.cell 3 _ rfl;have x4:=hX.cell 4 _ rfl;clear hS hX hr E;go_enter func302,ntmps302
 go_wp2_with fail
 obtain ⟨W3,hW3⟩:∃ q,((w.alloc (.cells #[.string nnS,.int .i64 1] 44)).alloc (.cells #[.int .i64 (-3),.slice (some ⟨b,off,none⟩) 1 ct,.map mb,.int .i64 1,.bool false] 271)).alloc (.cells #[.int .i64 3,.slice none 0 0] 40)=q:=⟨_,rfl⟩
 have HB3:Hid (Below w.heap.size w W3):=hJ (by rw [← hW3];exact (((zB _ _).alloc (zR _) _).alloc (by simp) _).alloc (by simp;omega) _);have HT:Hid (Bx W3 w.heap.size 44 [.string nnS,.int .i64 1]):=hJ (by rw [← hW3];exact ((Bx.fresh w _ _).alloc _).alloc _);have HY:Hid (Bx W3 (w.heap.size+1+1) 40 [.int .i64 3,.slice none 0 0]):=hJ (by rw [← hW3];have:=Bx.fresh ((w.alloc (.cells #[.string nnS,.int .i64 1] 44)).alloc (.cells #[.int .i64 (-3),.slice (some ⟨b,off,none⟩) 1 ct,.map mb,.int .i64 1,.bool false] 271)) 40 [.int .i64 3,.slice none 0 0];simpa using this);have hz3:W3.heap.size=w.heap.size+3:=by rw [← hW3];simp
 rw [hW3];replace c0:=kAE c0 _ HB3.out;replace c1:=kAE c1 _ HB3.out;have t0:=HT.out.cell 0 _ rfl;have t1:=HT.out.cell 1 _ rfl;clear hW3 s0 x0 x1 x2 x3 x4;refine wp_loop_rounds 2 ?_;rw [rounds_succ]
 go_wp2_with fail
 rw [rounds_succ];have hA4:Below W3.heap.size W3 (W3.alloc (.cells #[.string nnS,.int .i64 1] 44)):=(zB _ _).alloc (zR _) _;have HB4:=hJ (HB3.out.trans (hA4.mono HB3.out.size));have HT4:=hJ (HT.out.alloc (.cells #[.string nnS,.int .i64 1] 44));have HY4:=hJ (HY.out.alloc (.cells #[.string nnS,.int .i64 1] 44));generalize (W3.alloc (.cells #[.string nnS,.int .i64 1] 44))=W4 at *;have HS4:=hJ (HS.out.below HB4.out hsl);have HX4:=hJ (HX.out.below HB4.out hgl);replace t0:=HT4.out.cell 0 _ rfl;replace t1:=HT4.out.cell 1 _ rfl;have y0:=HY4.out.cell 0 _ rfl;have y1:=HY4.out.cell 1 _ rfl;have s0:=HS4.out.cell 0 _ rfl;have HP:=hJ (eqn_put HS4.out HX4.out (HR.out.below HB4.out) hne (HE.out _ HB4.out));clear c0 c1 hA4 HT HY HB3 HT4 HY4
 go_wp2_with fail
 refine wp_loop_rounds 1 ?_;rw [rounds_succ]
 go_wp2_with fail
 refine HP.out.mono ?_;rintro e w5 ⟨rfl,hp⟩;have HPE:Hid (PutEnd W4 w5 bs g cg (.map mb :: .int .i64 1 :: .bool false :: rest)):=hJ hp;clear hp HP
 go_wp2_with fail
 go_ret;exact ⟨rfl,HPE.out.lower HB4.out⟩
theorem eqn_step {w:World} {bs g cg ct:Nat} {mb:Option Nat} {rest:List Value} {at_:Option Addr} (hS:Bx w bs 268 [.slice (some ⟨g,0,none⟩) 1 cg,.slice none 0 0,.int .i64 1]) (hX:Bx w g 271 (.int .i64 (-3) :: .slice at_ 1 ct :: .map mb :: .int .i64 1 :: .bool false :: rest)) (hr:Sl kA7 (fun q=>q≠g) w at_ 1 ct [⟨nnS,1⟩]) (hne:bs≠g) (hg8:8≤g) (E:Env w) :
 Calls Tryz.prog 242 #[.pointer (some ⟨bs,0,none⟩),.int .i64 0] w fun e w'=>e= .returned (.tuple #[.agg #[.slice none 0 0,.int .i64 0],.int .i64 0])∧PutEnd w w' bs g cg (.map mb :: .int .i64 1 :: .bool false :: rest):=by
 have HS:=hJ hS;have HX:=hJ hX;have HR:=hJ hr;have HE:=hJ (fun (W:World) (hW:Below w.heap.size w W)=>E.below hW);have hsl:=hS.lt;have hgl:=hX.lt;obtain ⟨W1,hW1⟩:∃ q,w.alloc (.cells #[.slice none 0 0,.int .i64 0] 192)=q:=⟨_,rfl⟩
 have HB1:Hid (Below w.heap.size w W1):=hJ (by rw [← hW1];exact (zB _ _).alloc (zR _) _);have HF:Hid (Bx W1 w.heap.size 192 [.slice none 0 0,.int .i64 0]):=hJ (by rw [← hW1];exact Bx.fresh w _ _);replace HS:=hJ (HS.out.below HB1.out hsl);replace HX:=hJ (HX.out.below HB1.out hgl);have hrd:RLin.rd (fun q=>q≠g) W1 [.int .i64 (-3),.slice at_ 1 ct] ⟨-3,[⟨nnS,1⟩]⟩:=⟨_,rfl,at_,ct,rfl,HR.out.below HB1.out⟩
 have HC:=hJ (linear_Content1 hrd kHL (HE.out _ HB1.out));have s0:=HS.out.cell 0 _ rfl;have x0:=HX.out.cell 0 _ rfl;have x1:=HX.out.cell 1 _ rfl;clear hS hX hr E hrd;go_enter func242,ntmps242
 go_wp2_with fail
 clear hW1;refine (HC.out).mono ?_;rintro e w2 ⟨rfl,hb⟩;have HB2:=hJ (HB1.out.trans (hb.mono HB1.out.size));replace HS:=hJ (HS.out.below hb (Nat.lt_of_lt_of_le hsl HB1.out.size));replace HX:=hJ (HX.out.below hb (Nat.lt_of_lt_of_le hgl HB1.out.size));replace HF:=hJ (HF.out.below hb HF.out.lt);replace HR:=hJ (HR.out.below HB2.out);replace s0:=HS.out.cell 0 _ rfl;replace x0:=HX.out.cell 0 _ rfl;replace x1:=HX.out.cell 1 _ rfl;have hz2:=HB2.out.size;have hfl:=HF.out.lt;have hsl2:=HS.out.lt;have hgl2:=HX.out.lt;clear hb HC HB1;obtain ⟨b,off,rfl,hbW,hbg⟩:=HR.out.form 0 (Nat.lt_succ_self 0)
 go_upto_block 2 with fail
 obtain ⟨W3,hW3⟩:∃ q,w2.alloc (.cells #[.int .i64 (-3),.slice none 0 0] 40)=q:=⟨_,rfl⟩
 have hA3:Below w2.heap.size w2 W3:=by rw [← hW3];exact (zB _ _).alloc (zR _) _
 have HB3:=hJ (HB2.out.trans (hA3.mono hz2));have HQ3:Hid (Bx W3 w2.heap.size 40 [.int .i64 (-3),.slice none 0 0]):=hJ (by rw [← hW3];exact Bx.fresh w2 _ _);have HS3:=hJ (HS.out.below hA3 hsl2);have HX3:=hJ (HX.out.below hA3 hgl2);have HF3:=hJ (HF.out.below hA3 hfl);have HR3:=hJ (HR.out.below hA3);have hz3:W3.heap.size=w2.heap.size+1:=by rw [← hW3];simp
 rw [hW3];clear hW3 hA3 HS HX HF HR s0 x0 x1;obtain ⟨c0,c1⟩:=HR3.out.coef 0 (Nat.lt_succ_self 0);have c0:W3.cell? ⟨b,off,none⟩=some (.string nnS):=c0;have c1:W3.cell? ⟨b,off+1,none⟩=some (.int .i64 1):=c1
 go_cut [7] (fun v W=>v= .int .i64 1∧∃ a5 c5,Hid (Bx W w2.heap.size 40 [.int .i64 (-3),.slice a5 1 c5])∧Hid (Sl kA7 (fun q=>W3.heap.size≤q) W a5 1 c5 [⟨nnS,1⟩])∧Hid (Kb w2.heap.size W3 W))
 case first =>
  go_wp2_with fail
  refine wp_loop_rounds 2 ?_;rw [rounds_succ]
  go_wp2_with fail
  obtain ⟨W4,hW4⟩:∃ q,W3.alloc (.cells #[.string nnS,.int .i64 1] 44)=q:=⟨_,rfl⟩
  have hA4:Below W3.heap.size W3 W4:=by rw [← hW4];exact (zB _ _).alloc (zR _) _
  have HA4:=hJ hA4;have HB4:=hJ (HB3.out.trans (hA4.mono HB3.out.size));have HU4:Hid (Bx W4 (w2.heap.size+1) 44 [.string nnS,.int .i64 1]):=hJ (by rw [← hz3,← hW4];exact Bx.fresh W3 _ _);have HQ4:=hJ (HQ3.out.below hA4 HQ3.out.lt);have HS4:=hJ (HS3.out.below hA4 HS3.out.lt);have HX4:=hJ (HX3.out.below hA4 HX3.out.lt);have HF4:=hJ (HF3.out.below hA4 HF3.out.lt);have HZ3:=hJ hz3;have HZ4:Hid (W4.heap.size=W3.heap.size+1):=hJ (by rw [← hW4];simp);have u0:=HU4.out.cell 0 _ rfl;have u1:=HU4.out.cell 1 _ rfl;have q0:=HQ4.out.cell 0 _ rfl;have q1:=HQ4.out.cell 1 _ rfl;have q2:=HQ4.out.fz 1;have hql:=HQ4.out.lt;rw [hW4];clear hW4 hA4 c0 c1 hz3;have hw1:IntKind.i64.wrap 1=1:=rfl
  go_region_law (first
   | (refine kEW kDB rfl (.tmp 106) (.tmp 114) rfl W4.heap.size (.slice none 0 0) [] rfl (Own.nil kA7 _ (fun _=>False) _ _) W4.heap.size ⟨nnS,1⟩ [.string nnS,.int .i64 1] rfl ?ry ?rc ?rl ?rm ?rb ?_
      case ry=>first | exact rfl
      case rc=>first | exact kA3 44 (by (simp only [kAJ,kAF,Array.getElem?_push,Array.size_push];simp))
      case rl=>first | (simp;done)
      case rm=>first | (unfold maxLen;simp;done)
      case rb=>first | (simp;done)
      intro v5 w5 hown5 hb5 hk5;have hB5:Below W4.heap.size W4 w5:=Below.trans (by go_grown) hb5;obtain ⟨a5,m5,c5,rfl⟩:=hown5.shape;have HX5:=HQ4.out.below hB5 hql;have z1:=HX5.cell 1 _ rfl;have z2:=HX5.fz 1))
  all_goals
   obtain ⟨a6,c6,e6,hs6⟩:=hown5.sl;rw [Value.slice.injEq] at e6;obtain ⟨rfl,rfl,rfl⟩:=e6;have hs6:Sl kA7 (fun k=>False∨W4.heap.size≤k) w5 a5 1 c5 [⟨nnS,1⟩]:=hs6;have HF5:Hid (Bx (w5.setCell ⟨w2.heap.size,1,none⟩ (.slice a5 1 c5)) w2.heap.size 40 [.int .i64 (-3),.slice a5 1 c5]∧Sl kA7 (fun q=>W4.heap.size≤q) (w5.setCell ⟨w2.heap.size,1,none⟩ (.slice a5 1 c5)) a5 1 c5 [⟨nnS,1⟩]∧Kb w2.heap.size W4 (w5.setCell ⟨w2.heap.size,1,none⟩ (.slice a5 1 c5))):=hJ ⟨HX5.set 1 _,(hs6.frame fun q hq _=>kAA (by show w2.heap.size≠q;have hq:W4.heap.size≤q:=hq.elim False.elim id;omega)).mono (fun q hq _=>hq.elim False.elim id),((Kb.refl _ W4).later hB5).set 1 _⟩;clear hown5 hb5 hk5 hB5 HX5 z1 z2 hs6
   go_wp2_with fail
   rw [rounds_succ]
   go_wp2_with fail
   go_meet
   exact ⟨rfl,a5,c5,hJ HF5.out.1,hJ (HF5.out.2.1.mono (fun q hq _=>by have:=HZ4.out;omega)),hJ ((Kb.refl _ W3).later HA4.out |>.trans HF5.out.2.2)⟩
 case rest =>
  obtain ⟨rfl,a5,c5,HQ5,HT5,HK5⟩:=hcut;have hz3':w2.heap.size<W3.heap.size:=by omega
  have HX5:=hJ (HX3.out.kb HK5.out (by omega));have HS5:=hJ (HS3.out.kb HK5.out (by omega));have HF5:=hJ (HF3.out.kb HK5.out (by omega));have HBc:Hid (Below w.heap.size w wc):=hJ (HB3.out.trans (HK5.out.below hz2 (by omega)));have hzc:=HK5.out.size;have x3:=HX5.out.cell 3 _ rfl;have hxl:=HX5.out.lt;have hM:=hJ (int_Mul1 wc);clear HX3 HS3 HF3 HQ3 HK5 HR3 HB2 HB3
  go_wp2_with fail
  refine (hM.out).mono ?_;rintro e w6 ⟨rfl,hb6⟩;have HB6:=hJ (HBc.out.trans (hb6.mono HBc.out.size));have HX6:=hJ (HX5.out.below hb6 hxl);have HS6:=hJ (HS5.out.below hb6 HS5.out.lt);have HF6:=hJ (HF5.out.below hb6 HF5.out.lt);have HQ6:=hJ (HQ5.out.below hb6 HQ5.out.lt);have HT6:=hJ (HT5.out.below hb6);have hz6:=hb6.size;clear hb6 hM HX5 HS5 HF5 HQ5 HT5 HBc x3;have hsm:=hJ (eqn_small 1 (by decide) (by decide) w6);have q0:=HQ6.out.cell 0 _ rfl;have q1:=HQ6.out.cell 1 _ rfl;have x0:=HX6.out.cell 0 _ rfl;have x1:=HX6.out.cell 1 _ rfl;have x3:=HX6.out.cell 3 _ rfl;have f0:=HX6.out.fz 0;have f1:=HX6.out.fz 1;have f3:=HX6.out.fz 3;have hgl6:=HX6.out.lt;have hql6:=HQ6.out.lt;clear c0 c1 hz3
  go_wp2_with fail
  refine (hsm.out).mono ?_;rintro e _ ⟨rfl,rfl⟩;clear hsm;obtain ⟨W7,hW7⟩:∃ q,((w6.setCell ⟨g,0,none⟩ (.int .i64 (-3))).setCell ⟨g,1,none⟩ (.slice a5 1 c5)).setCell ⟨g,3,none⟩ (.int .i64 1)=q:=⟨_,rfl⟩
  have HX7:Hid (Bx W7 g 271 (.int .i64 (-3) :: .slice a5 1 c5 :: .map mb :: .int .i64 1 :: .bool false :: rest)):=hJ (by rw [← hW7];exact ((HX6.out.set 0 _).set 1 _).set 3 _);have HS7:Hid (Bx W7 bs _ _):=hJ (by rw [← hW7];exact ((HS6.out.other (by show g≠bs;exact hne.symm)).other (by show g≠bs;exact hne.symm)).other (by show g≠bs;exact hne.symm));have HF7:Hid (Bx W7 w.heap.size _ _):=hJ (by rw [← hW7];exact ((HF6.out.other (by show g≠w.heap.size;omega)).other (by show g≠w.heap.size;omega)).other (by show g≠w.heap.size;omega));have HQ7:Hid (Bx W7 w2.heap.size _ _):=hJ (by rw [← hW7];exact ((HQ6.out.other (by show g≠w2.heap.size;omega)).other (by show g≠w2.heap.size;omega)).other (by show g≠w2.heap.size;omega));have HT7:Hid (Sl kA7 (fun q=>W3.heap.size≤q) W7 a5 1 c5 [⟨nnS,1⟩]):=hJ (by rw [← hW7];exact HT6.out.frame fun q hq _=>(kAA (by show g≠q;have hq:W3.heap.size≤q:=hq;omega)).trans ((kAA (by show g≠q;have hq:W3.heap.size≤q:=hq;omega)).trans (kAA (by show g≠q;have hq:W3.heap.size≤q:=hq;omega))));have HK7:Hid (Kb g w W7):=hJ (by rw [← hW7];exact (((((Kb.refl g w).later HB6.out).set 0 _).set 1 _).set 3 _));have hz7:W7.heap.size=w6.heap.size:=by rw [← hW7];simp
  have hP:=hJ (eqn_pick (q:= -3) HT7.out);have p0:=HQ7.out.cell 0 _ rfl;have p1:=HQ7.out.cell 1 _ rfl;have hmf:∀ (fn:Fn) (first cap:Array Value) (w:World),(Instr.makeFunc fn first cap).run Tryz.prog w= .ok (.func fn first cap) w:=fun _ _ _ _=>rfl
  clear hz3' hxl
  go_wp2_with fail
  clear hW7 q0 q1 p0 p1 x0 x1 x3 f0 f1 f3 HX6 HS6 HF6 HQ6 HT6;refine (hP.out).mono ?_;rintro e w8 ⟨rfl,hb8⟩;obtain ⟨W9,hW9⟩:∃ q,w8.alloc (.cells #[.string nnS,.int .i64 1] 44)=q:=⟨_,rfl⟩
  have hB79:Below W7.heap.size W7 W9:=by rw [← hW9];exact hb8.alloc hb8.size _
  have HC9:Hid (Bx W9 w8.heap.size 44 [.string nnS,.int .i64 1]):=hJ (by rw [← hW9];exact Bx.fresh w8 _ _);have HX9:=hJ (HX7.out.below hB79 HX7.out.lt);have HS9:=hJ (HS7.out.below hB79 HS7.out.lt);have HF9:=hJ (HF7.out.below hB79 HF7.out.lt);have HT9:=hJ (HT7.out.below hB79);have HK9:=hJ (HK7.out.later hB79);have hgW9:g<W9.heap.size:=HX9.out.lt;have HU:=hJ (eqn_unit HS9.out HX9.out HT9.out.all hne ((HE.out w (zB _ _)).kb HK9.out hg8));have c0:=HC9.out.cell 0 _ rfl;have c1:=HC9.out.cell 1 _ rfl;have hfl9:=HF9.out.lt;clear HX7 HS7 HF7 HQ7 HT7 HK7 hP hb8
  go_wp2_with fail
  clear hW9;refine HU.out.mono ?_;rintro e w10 ⟨rfl,a',c',a2,c2,hx,hs,hsl10,hk⟩;have hFne:w.heap.size≠g:=by omega
  have HF10:Hid (Bx w10 w.heap.size _ _):=hJ ((hk.block _ hfl9 (by omega) (by omega)).trans HF9.out);have HPe:Hid (Bx w10 g 271 (.int .i64 0 :: .slice a' 0 c' :: .map mb :: .int .i64 1 :: .bool false :: rest)∧Bx w10 bs 268 [.slice (some ⟨g,0,none⟩) 1 cg,.slice a2 1 c2,.int .i64 1]∧Sl RBnd (fun q=>W9.heap.size≤q) w10 a2 1 c2 [bd3]∧K2 bs g w w10):=hJ ⟨hx,hs,hsl10,(K2.of_kbg HK9.out).trans hk⟩;have r0:=HF10.out.cell 0 _ rfl;have r1:=HF10.out.cell 1 _ rfl;have r2:=HF10.out.fz 0;have r3:=HF10.out.fz 1;have HF11:=hJ ((HF10.out.set 0 (.slice none 0 0)).set 1 (.int .i64 0));have s0:=HF11.out.cell 0 _ rfl;have s1:=HF11.out.cell 1 _ rfl;have hz9:=HK9.out.size;clear hx hs hsl10 hk HU c0 c1
  (try simp only []);repeat (first | go_values | go_skip | go_guarded | go_step | go_upon)
  refine bodyPost_ret (v:=.tuple #[.agg #[.slice none 0 0,.int .i64 0],.int .i64 0]) (by simp [results,results242,go_sem,s0,s1]) rfl ?_;obtain ⟨p1,p2,p3,p4⟩:=HPe.out;have hbs:w.heap.size≠bs:=by omega
  refine ⟨rfl,a',c',a2,c2,(p1.other hFne).other hFne,(p2.other hbs).other hbs,(p3.frame fun q hq hlt=>?_).mono (fun q hq _=>by have hq:W9.heap.size≤q:=hq;omega),p4.os,p4.tape,p4.output,by simpa using p4.size,fun k hk h1 h2=>(kAA (by show w.heap.size≠k;omega)).trans ((kAA (by show w.heap.size≠k;omega)).trans (p4.block k hk h1 h2))⟩;have hq:W9.heap.size≤q:=hq;exact (kAA (by show w.heap.size≠q;omega)).trans (kAA (by show w.heap.size≠q;omega))
open Go.RowKit Go.Maps
abbrev mapRdB (P:Program):Value→Option (DataW Unit × List MemPlace):=plainElem P 4
structure BoolB where
 b:Bool
theorem boolInv:∀ v y,mapRdB Tryz.prog v=some y→∃ c:BoolB,v= .bool c.b:=fun v y hv=>by
 unfold mapRdB plainElem at hv;rw [underlying4] at hv;cases v <;> simp at hv
 exact ⟨⟨_⟩,rfl⟩
structure MapS (w:World) (b n:Nat) (D:DataW Unit) (S:List Str):Prop where
 own:w.ownsMap Tryz.prog 9 (mapRdB Tryz.prog) b n D
 mem:∀ s:Str,has D (.string s.data.toList)=true ↔ s ∈ S
theorem MapS.kept {w w':World} {b n:Nat} {D:DataW Unit} {S:List Str} (h:MapS w b n D S) (hb:Below w.heap.size w w'):MapS w' b n D S :=
 ⟨h.own.kept ⟨hb.os,hb.tape,hb.output,hb.size,fun k hk _=>hb.block k hk⟩ (row:=none) (by simp),h.mem⟩
theorem MapS.made (w:World):MapS (w.alloc (.map #[] 0)) w.heap.size 0 (.map []) []:=⟨World.ownsMap_made _ _ _ _,fun s=>by simp [has_eq]⟩
theorem MapS.put {w w':World} {b n n':Nat} {D:DataW Unit} {S:List Str} (h:MapS w b n D S) {s:Str} (hs:s.size≤maxLen) {d:DataW Unit} (h2:w'.ownsMap Tryz.prog 9 (mapRdB Tryz.prog) b n' (D.put (.string s.data.toList) d)):MapS w' b n' (D.put (.string s.data.toList) d) (S++[s]):=by
 refine ⟨h2,fun v=>?_⟩;obtain ⟨es,hD,_⟩:=h.own.entries kGL;have hM:IsMap D:=⟨es,hD⟩
 rw [List.mem_append,List.mem_singleton];by_cases hv:v=s
 · subst hv
   rw [has_put_same hM (kGL.key (WideMaps.keyOf_string_mk underlying9 hs))];simp
 · rw [has_put_other (fun e=>hv (by injection e with e;exact ByteArray.ext (Array.toList_inj.1 e))),h.mem v]
   exact ⟨.inl,fun q=>q.resolve_right hv⟩
theorem sizeB_le {w:World} {b n:Nat} {D:DataW Unit} (h:w.ownsMap Tryz.prog 9 (mapRdB Tryz.prog) b n D):size D≤n:=by
 obtain ⟨es,clock,_,_,hn,rfl⟩:=h
 show ((es.toList.map _).foldr DataW.insert []).length≤n
 rw [length_sorted,List.length_map];exact hn
def VarsOf (S:List Str) (m:List (List UInt8)):Prop:=m.Pairwise (fun a b=>a<b)∧∀ b,b ∈ m ↔ mkS b ∈ S
theorem kEB {S:Blk} (l:List Lin) (a:Option Addr) (n c:Nat) (w:World) (h:Sl RLin S w a n c l) (hz:∀ x ∈ l,szL x∧x.terms.length≤1000000) (hn:n≤1000000) (ht:(l.flatMap kAL).length≤1000) :
 Calls Tryz.prog 173 #[.slice a n c] w fun e w'=>(∃ v m,e= .returned v∧Own RStr 9 (fun _=>False) w' w.heap.size v (m.map mkS)∧VarsOf (l.flatMap kAL) m)∧Below w.heap.size w w':=by
 have H:=hJ h;have HZ:=hJ hz;have HT:=hJ ht;clear h hz ht;have hmm:= @run_makeMap Tryz.prog;go_enter func173,ntmps173
 go_wp2_with fail
 have HM0:=hJ (MapS.made w);have HB0:Hid (Below w.heap.size w (w.alloc (.map #[] 0))):=hJ ((zB _ _).alloc (zR _) _);have hz0:(w.alloc (.map #[] 0)).heap.size=w.heap.size+1:=by simp
 generalize w.alloc (.map #[] 0)=W0 at *;clear hmm
 go_loopw [13] (fun i wr=>∃ (k N:Nat) (D:DataW Unit),k≤n∧i= .int .i64 k∧N≤((l.take k).flatMap kAL).length∧Hid (MapS wr w.heap.size N D ((l.take k).flatMap kAL))∧Hid (Below w.heap.size w wr)∧w.heap.size+1≤wr.heap.size) (fun i _=>n - (intOf i).toNat)
 case atStart=>exact ⟨0,0,_,Nat.zero_le _,rfl,Nat.zero_le _,HM0,HB0,by omega⟩
 case round =>
  obtain ⟨k,N,D,hk,rfl,hN,HM,HB,hws⟩:=hrel;by_cases hlt:k<n
  · obtain ⟨b,off,rfl,hbW,_⟩:=H.out.form k hlt
    have hkl:k<l.length:=by rw [H.out.len];exact hlt
    obtain ⟨t,hr,⟨ax,cx,rfl,hts⟩,c0,c1⟩:=(H.out.below HB.out).lin k hlt;have HNext:Hid ((l.take (k+1)).flatMap kAL=(l.take k).flatMap kAL++kAL (l.getD k default)):=hJ (by rw [kAU hkl,List.flatMap_append];simp);have HXz:=hJ (HZ.out _ (kAM hkl))
    have HLn:Hid (((l.take k).flatMap kAL++kAL (l.getD k default)).length≤1000):=hJ (by
     rw [← HNext.out];refine zE ?_ HT.out;have:l=l.take (k+1)++l.drop (k+1):=(List.take_append_drop _ _).symm;rw [congrArg (fun q=>(q.flatMap kAL).length) this,List.flatMap_append,zP];exact Nat.le_add_right _ _)
    clear hkl hr;generalize l.getD k default=x at *;generalize hl0:(l.take k).flatMap kAL=l0 at *;clear hl0;have HAx:Hid (Below wr.heap.size wr (wr.alloc (.cells #[.int .i64 x.const,.slice ax x.terms.length cx] 40))):=hJ ((zB _ _).alloc (zR _) _);have HC:=hJ (kGA x ax _ cx _ (hts.below HAx.out) HXz.out.2);have hvl:(kAL x).length=x.terms.length:=kIJ x;have HVL:=hJ hvl;clear hvl hts
    go_wp2_with fail
    refine HC.out.mono ?_;rintro e w3 ⟨⟨v3,rfl,hown3⟩,hb3⟩;obtain ⟨a3,c3,rfl,hs3⟩:=hown3.sl;have HB3:=hJ (HAx.out.trans (hb3.mono HAx.out.size));have hz3:=HB3.out.size;have HS3:Hid (Sl RStr (fun q=>wr.heap.size≤q) w3 a3 (kAL x).length c3 (kAL x)):=hJ (hs3.mono (fun q hq _=>by rcases hq with hq | hq;exact hq.elim;simp at hq;omega));have HM3:=hJ (HM.out.kept HB3.out);have HB30:=hJ (HB.out.trans (HB3.out.mono HB.out.size));clear hown3 hs3 hb3 HC HM c0 c1;rw [HVL.out] at HS3 ⊢;generalize hxl:x.terms.length=n3 at *;have HXL:=hJ hxl;clear hxl;have hsm3:=HS3.out.small
    go_wp2_with fail
    go_loopw [20] (fun i wr2=>∃ (j N:Nat) (D:DataW Unit),j≤n3∧i= .int .i64 j∧N≤l0.length+j∧Hid (MapS wr2 w.heap.size N D (l0++(kAL x).take j))∧Hid (Sl RStr (fun q=>wr.heap.size≤q) wr2 a3 n3 c3 (kAL x))∧Hid (Below w.heap.size w wr2)∧w.heap.size+1≤wr2.heap.size) (fun i _=>n3 - (intOf i).toNat)
    case atStart=>exact ⟨0,N,D,Nat.zero_le _,rfl,by omega,hJ (by rw [List.take_zero,List.append_nil];exact HM3.out),HS3,HB30,by omega⟩
    case round =>
     obtain ⟨j,N2,D2,hj,rfl,hN2,HM2,HS2,HB2,hws2⟩:=hrel;by_cases hlj:j<n3
     · obtain ⟨b2,off2,rfl,hbW2,_⟩:=HS2.out.form j hlj
       have f0:=HS2.out.str j hlj;have hjl:j<(kAL x).length:=by rw [HVL.out];exact hlj
       have HStep:Hid ((kAL x).take (j+1)=(kAL x).take j++[(kAL x).getD j default]):=hJ (kAU hjl)
       have HVz:Hid (((kAL x).getD j default).size≤maxLen):=hJ (by
        obtain ⟨t,ht,e⟩:=List.mem_map.1 (kAM hjl);have e:t.v=(kAL x).getD j default:=e;rw [← e];exact zE (HXz.out.1 t ht) (by decide))
       have hN1:N2<maxLen:=by
        have q:=HLn.out;rw [zP,HVL.out] at q;unfold maxLen;omega
       clear hjl;generalize (kAL x).getD j default=y at *
       go_wp2_with (at_mapUpdate;refine wpList_mapUpdate_own _ rfl _ _ _ 264 rfl 9 4 kGL underlying264 _ w.heap.size N2 _ rfl HM2.out.own hN1 _ _ _ rfl rfl (WideMaps.keyOf_string_mk underlying9 HVz.out) _ [] (plainElem_bool underlying4 true) ?_;intro w1 hown1 hgrow1)
       have HM5:=hJ (HM2.out.put HVz.out hown1);have HS5:=hJ (HS2.out.frame (w':=w1) (fun q hq hlt=>hgrow1.block q hlt (fun e=>by cases e;omega)));have HB5:Hid (Below w.heap.size w w1):=hJ (HB2.out.trans ⟨hgrow1.os,hgrow1.tape,hgrow1.output,hgrow1.size,fun q hq=>hgrow1.block q (by omega) (fun e=>by cases e;omega)⟩);have hz5:=hgrow1.size;clear hown1 hgrow1 f0
       go_wp2_with fail
       go_roundw
       case rel=>exact ⟨j+1,N2+1,_,by omega,by go_num,by omega,hJ (by rw [HStep.out,← List.append_assoc];exact HM5.out),HS5,HB5,by omega⟩
       case measure=>simp [intOf];omega
     · have HEnd:Hid ((kAL x).take j=kAL x):=hJ (zT (by rw [HVL.out];omega))
       go_wp2_with fail
       go_roundw
       case rel=>exact ⟨k+1,N2,D2,by omega,by go_num,by rw [HNext.out,zP,HVL.out];omega,hJ (by rw [HNext.out,← HEnd.out];exact HM2.out),HB2,by omega⟩
       case measure=>simp [intOf];omega
  · have HAll:Hid (l.take k=l):=hJ (zT (by rw [H.out.len];omega))
    rw [HAll.out] at HM hN;have HTl:=HT.out;have hszD:=sizeB_le HM.out.own;generalize hS0:l.flatMap kAL=S0 at *;have HS0:=hJ hS0;clear hS0 H HZ hk HT HB0 HM0 hz0 HAll;obtain ⟨W,rfl⟩:∃ W:World,W=wr:=⟨_,rfl⟩
    go_wp2_with (first | (at_range;refine wpList_range_own _ rfl _ _ rfl 9 4 kGL underlying264 (mapRdB Tryz.prog) w.heap.size N D rfl HM.out.own ?_;intro w0 hrg0 hg0 hs0))
    have HB0:Hid (Below w.heap.size w w0):=hJ (HB.out.trans ⟨hg0.os,hg0.tape,hg0.output,hg0.size,fun k hk=>hg0.block k (by omega) (by simp)⟩);clear hg0
    go_frame
    go_loopw [8] (fun v wr=>∃ (left:Lit→Bool) (cnt:Nat) (ss:List (List UInt8)) (v0:Value),v0=v∧wr.ranges Tryz.prog 9 (mapRdB Tryz.prog) w.heap.size W.heap.size N D left cnt∧Hid (Collected D left ss)∧ss.length+cnt≤size D∧Hid (Own RStr 9 (fun _=>False) wr (W.heap.size+1) v (ss.map mkS))∧Hid (Below w.heap.size w wr)∧W.heap.size+1≤wr.heap.size) (fun _ wr=>wr.rangeLeft w.heap.size W.heap.size)
    case atStart=>exact ⟨_,_,[],_,rfl,hrg0,hJ (Collected.start D),by simp,hJ (Own.nil _ _ _ _ _),HB0,by omega⟩
    case round =>
     obtain ⟨left,cnt,ss,v0,rfl,hrg,HC,hcnt,HO,HB,hws2⟩:=hrel
     go_wp2_with (first
      | (at_next;refine wpList_next_ranges _ rfl _ rfl 9 kGL (mapRdB Tryz.prog) encStr (fun c:BoolB=>.bool c.b) strInv boolInv w.heap.size W.heap.size N D left cnt rfl hrg ?_ ?_))
     · intro hc0 hl0
       have HVs:Hid (VarsOf S0 (ss.mergeSort leB)):=hJ (by
        obtain ⟨h1,h2⟩:=HC.out;refine ⟨kIR h1,fun b=>?_⟩;rw [(List.mergeSort_perm ss leB).mem_iff,h2 b];have:=HM.out.mem (mkS b);exact ⟨fun q=>this.1 q.1,fun q=>⟨this.2 q,hl0 _⟩⟩)
       have hfl:ss.length≤1000:=by omega
       have hrow:=HO.out.toRow;rw [List.length_map,map_enc] at hrow;clear hrg HC hc0 hl0 HO;have hML:(ss.mergeSort leB).length=ss.length:=List.length_mergeSort _;obtain ⟨_,⟨rfl,h0⟩ | ⟨g,cap,cur,rfl,hbase,hb,h1,h2,h3,h4⟩⟩:=hrow
       · have hLs:ss=[]:=zL h0
         subst hLs
         go_wp2_with (go_at_call 150;refine (sort_none _).mono ?_;rintro e W5 ⟨rfl,hb5⟩;have HB5:=hJ (HB.out.trans (hb5.mono (by omega))))
         clear hML
         go_wp2_with fail
         go_ret;exact ⟨⟨_,[],rfl,Own.nil _ _ _ _ _,by rw [HS0.out];simpa using HVs.out⟩,HB5.out⟩
       · have hH:Go.Sort.Holds encStr wr g 0 ss.toArray:=holds_of_block hb (by simpa using h4)
         have hgl:g<wr.heap.size:=(Array.getElem?_eq_some_iff.1 hb).1;have hcs:=hJ (Tryz.slices_Sort_string g 0 cap ss wr hH hgl (by omega))
         go_wp2_with (go_at_call 150;refine hcs.out.mono ?_;rintro e W5 ⟨rfl,nn,os,hW5⟩;have HW5:=hJ hW5;clear hW5)
         have HR5:=ownsRow_sorted (n:=nn) (os:=os) (cap:=cap) (ts:=ss.mergeSort leB) (ss:=ss) hML hbase hb h1 h2 h3;have hg5:wr.grownBy W5 (some g):=by rw [HW5.out];exact grownBy_sorted _
         have HB5:Hid (Below w.heap.size w W5):=hJ (HB.out.trans ⟨hg5.os,hg5.tape,hg5.output,hg5.size,fun k hk=>hg5.block k (by omega) (fun e=>by cases e;omega)⟩)
         have HO5:Hid (Own RStr 9 (fun _=>False) W5 (W.heap.size+1) (.slice (some ⟨g,0,none⟩) ss.length cap) ((ss.mergeSort leB).map mkS)):=hJ (Own.ofRow (by
          rw [map_enc,List.length_map,hML,HW5.out];exact HR5))
         have hgw:=HB.out.size;clear HR5 hg5 HW5 hH hcs h3 h4 hb hML
         go_wp2_with fail
         go_ret;exact ⟨⟨_,_,rfl,HO5.out.lower (by omega),by rw [HS0.out];exact HVs.out⟩,HB5.out⟩
     · intro x1 c kl yd yp w2 cnt2 hkey hlk hv hat hrg2 hltm hg2 hs2 hen
       obtain ⟨x',ex,rfl,_⟩:=Maps.keyOf_str underlying9 hkey;obtain rfl:x1=x':=encStr_inj ex;have hws3:W.heap.size+1≤w2.heap.size:=by omega
       have HC2:=hJ (HC.out.step hlk hat)
       have HO2:=hJ (HO.out.frame (w':=w2) (fun k hk q=>hg2.block k hk (fun e=>by
        rcases q with q | q
        · exact q.elim
        · have:=HO.out.base_le k q
          cases e;omega)) hg2.size)
       have HB2b:Hid (Below w.heap.size w w2):=hJ (HB.out.trans ⟨hg2.os,hg2.tape,hg2.output,hg2.size,fun k hk=>hg2.block k (by omega) (fun e=>by cases e;omega)⟩);have hfl:(ss.map mkS).length≤1000:=by rw [List.length_map];omega
       clear hs2 hkey hv hat hg2 ex
       go_wp2_with (at_builtin;refine kA1 kEO rfl _ _ rfl (W.heap.size+1) _ _ rfl (HO2.out.alloc _) _ (mkS x1) [encStr x1] rfl rfl (kA3 9 (by (simp only [kAJ,kAF,Array.getElem?_push,Array.size_push];simp))) (by omega) (by unfold maxLen;omega) (by simp;omega) ?_;intro v9 w9 hown9 hb9 hk9;go_frame)
       change Kp v0 _ _ w9 at hk9
       have hg9:w2.grownBy w9 v0.ownBlock:=⟨hb9.os,hb9.tape,hb9.output,by have:=hb9.size;simp at this;omega,fun k hk hne=>(hk9.block k (by simp;omega) (fun e=>hne (by rw [e]))).trans (by show (w2.heap.push _)[k]? =_;rw [Array.getElem?_push,if_neg (by omega)])⟩
       have hnr:∀ q,q<W.heap.size+1→some q≠v0.ownBlock:=fun q hq e=>by have:=HO.out.base_le q e.symm;omega
       have hrg9:=hrg2.kept hg9 (hnr _ (by omega)) (hnr _ (by omega));have HO9:Hid (Own RStr 9 (fun _=>False) w9 (W.heap.size+1) v9 ((ss++[x1]).map mkS)):=hJ (by rw [List.map_append];exact hown9);have HB9:Hid (Below w.heap.size w w9):=hJ (((HB2b.out).alloc (by omega) _).trans (hb9.mono (by omega)));go_roundw
       case rel=>exact ⟨_,cnt2,ss++[x1],_,rfl,hrg9,HC2,by rw [zP];simp;omega,HO9,HB9,by have:=hb9.size;simp at this;omega⟩
       case measure=>rw [hrg9.left_eq,hrg.left_eq];exact hltm
theorem eqn_greatest {S:Blk} (l:List Lin) (a:Option Addr) (n c:Nat) (w:World) (h:Sl RLin S w a n c l) (hz:∀ x ∈ l,szL x∧x.terms.length≤1000000) (hn:n≤1000000) (ht:(l.flatMap kAL).length≤1000) (hno:∀ s ∈ l.flatMap kAL,bt s 0≠95) :
 Calls Tryz.prog 172 #[.slice a n c] w fun e w'=>e= .returned (.int .i64 0)∧Below w.heap.size w w':=by
 have HC:=hJ (kEB l a n c w h hz hn ht);have HN:=hJ hno;clear h hz hn ht hno;go_enter func172,ntmps172
 go_wp2_with fail
 refine HC.out.mono ?_;rintro e w1 ⟨⟨v,m,rfl,hown,hm⟩,hb⟩;obtain ⟨a1,c1,rfl,hs⟩:=hown.sl;have HS:=hJ hs;have HB:=hJ hb;have HV:=hJ hm;have hsm:=hs.small;clear hown hs hb hm HC;generalize hL:(m.map mkS).length=k1 at *;have HL:=hJ hL;clear hL
 go_wp2_with fail
 go_loopw [3,9] (fun g i wr=>∃ k:Nat,k≤k1∧i= .int .i64 k∧g= .int .i64 0∧w1=wr) (fun _ i _=>k1 - (intOf i).toNat)
 case atStart=>exact ⟨0,Nat.zero_le _,rfl,rfl,rfl⟩
 case round =>
  obtain ⟨k,hk,rfl,rfl,rfl⟩:=hrel;by_cases hlt:k<k1
  · obtain ⟨b,off,rfl,hbW,_⟩:=HS.out.form k hlt
    have f0:=HS.out.str k hlt;have hkl:k<(m.map mkS).length:=by rw [HL.out];exact hlt
    have HF:=hJ (eqn_fresh ((m.map mkS).getD k default) (HN.out _ (by
     obtain ⟨b,hb,e⟩:=List.mem_map.1 (kAM hkl);rw [← e];exact (HV.out.2 b).1 hb)) w1)
    clear hkl;generalize (m.map mkS).getD k default=y at *
    go_wp2_with fail
    refine (HF.out).mono ?_;rintro e _ ⟨rfl,rfl⟩
    go_wp2_with fail
    go_roundw
    case rel=>exact ⟨k+1,by omega,by go_num,by rfl,trivial⟩
    case measure=>simp [intOf];omega
  · go_wp2_with fail
    go_ret;exact ⟨rfl,HB.out⟩
theorem isNaN_str (s:Str) (w:World):Calls Tryz.prog 303 #[.string s] w fun e w'=>e= .returned (.bool false)∧w=w':=by
 have q:(s.toList != s.toList)=false:=by simp
 have q2:(s.toList==s.toList)=true:=by simp
 go_enter func303,ntmps303
 go_wp2_with fail
 go_ret;exact ⟨rfl,rfl⟩
theorem less_self (s:Str) (w:World):Calls Tryz.prog 244 #[.string s,.string s] w fun e w'=>e= .returned (.bool false)∧w=w':=by
 have h1:=hJ (isNaN_str s);have q:=kCG s;unfold slt at q;go_enter func244,ntmps244
 go_wp2_with fail
 refine (h1.out _).mono ?_;rintro e _ ⟨rfl,rfl⟩
 go_wp2_with fail
 go_ret;exact ⟨rfl,rfl⟩
theorem search_one {S:Blk} {w:World} {a:Option Addr} {c:Nat} {s:Str} (h:Sl RStr S w a 1 c [s]) :
 Calls Tryz.prog 176 #[.slice a 1 c,.string s] w fun e w'=>e= .returned (.tuple #[.int .i64 0,.bool true])∧w=w':=by
 obtain ⟨b,off,rfl,hbW,_⟩:=h.form 0 (Nat.lt_succ_self 0);have f0:=h.str 0 (Nat.lt_succ_self 0);have f0:w.cell? ⟨b,off,none⟩=some (.string s):=f0;have hL:=hJ (less_self s);have q2:(s.toList==s.toList)=true:=by simp
 clear h;go_enter func176,ntmps176
 go_wp2_with fail
 refine wp_loop_rounds 2 ?_;rw [rounds_succ]
 go_wp2_with fail
 refine (hL.out _).mono ?_;rintro e _ ⟨rfl,rfl⟩
 go_wp2_with fail
 rw [rounds_succ]
 go_wp2_with fail
 go_returns
 exact ⟨rfl,rfl⟩
structure PreC {α :Type} (cmp: α → α →Int):Prop where
 anti:∀ a b,cmp b a= -cmp a b
 trans:∀ a b c,cmp a b≤0→cmp b c≤0→cmp a c≤0
theorem TotC.pre {α :Type} {cmp: α → α →Int} (t:TotC cmp):PreC cmp:=⟨t.anti,fun a b c h1 h2=>by
 by_cases e1:cmp a b=0
 · rw [(t.zero _ _).1 e1];exact h2
 · by_cases e2:cmp b c=0
   · rw [← (t.zero _ _).1 e2];exact h1
   · exact Int.le_of_lt (t.trans a b c (by omega) (by omega))⟩
structure InsAt {α :Type} (cmp: α → α →Int) (l0 l:List α) (A:List α) (x: α) (B C:List α):Prop where
 eq:l=A++x :: (B++C)
 perm:l.Perm l0
 le:Le cmp (A++B)
 up:∀ b ∈ B,cmp x b≤0
structure InsO {α :Type} (cmp: α → α →Int) (l0 l:List α) (i:Nat):Prop where
 perm:l.Perm l0
 le:Le cmp (l.take i)
theorem InsO.start {α :Type} (cmp: α → α →Int) (l:List α):InsO cmp l l 1:=⟨List.Perm.refl _,by
 cases l with
 | nil=>exact List.Pairwise.nil
 | cons a l=>simp [Le]⟩
theorem InsO.enter {α :Type} {cmp: α → α →Int} {l0 l:List α} {i:Nat} (h:InsO cmp l0 l i) (hi:i<l.length):InsAt cmp l0 l (l.take i) l[i] [] (l.drop (i+1)) :=
 ⟨by rw [List.nil_append,← List.drop_eq_getElem_cons hi,List.take_append_drop],h.perm,by rw [List.append_nil];exact h.le,fun b hb=>by simp at hb⟩
theorem InsAt.down {α :Type} {cmp: α → α →Int} {l0 l A B C:List α} {a x: α} (h:InsAt cmp l0 l (A++[a]) x B C) (hx:cmp x a<0):InsAt cmp l0 (A++x :: ((a :: B)++C)) A x (a :: B) C:=by
 refine ⟨rfl,?_,by simpa using h.le,fun b hb=>?_⟩
 · refine List.Perm.trans ?_ h.perm
   rw [h.eq,List.append_assoc];exact List.Perm.append_left A (List.Perm.swap a x (B++C))
 · rcases List.mem_cons.1 hb with q | q
   · rw [q];exact Int.le_of_lt hx
   · exact h.up b q
theorem InsAt.out0 {α :Type} {cmp: α → α →Int} {l0 l B C:List α} {x: α} (h:InsAt cmp l0 l [] x B C):InsO cmp l0 l (B.length+1):=by
 refine ⟨h.perm,?_⟩;rw [h.eq,List.nil_append,List.take_succ_cons,List.take_left];exact List.pairwise_cons.2 ⟨h.up,by have:=h.le;rwa [List.nil_append] at this⟩
theorem InsAt.out {α :Type} {cmp: α → α →Int} (t:PreC cmp) {l0 l A B C:List α} {a x: α} (h:InsAt cmp l0 l (A++[a]) x B C) (hx:¬cmp x a<0):InsO cmp l0 l (A.length+1+B.length+1):=by
 have hax:cmp a x≤0:=by rw [t.anti x a];omega
 refine ⟨h.perm,?_⟩
 have e:l.take (A.length+1+B.length+1)=(A++[a])++x :: B:=by
  rw [h.eq,show (A++[a])++x :: (B++C)=((A++[a])++x :: B)++C by simp,List.take_append_of_le_length (by simp;omega),zT (by simp;omega)]
 rw [e];have hl:=List.pairwise_append.1 h.le;refine List.pairwise_append.2 ⟨hl.1,List.pairwise_cons.2 ⟨h.up,hl.2.1⟩,fun u hu v hv=>?_⟩
 have hua:u=a∨cmp u a≤0:=by
  rcases List.mem_append.1 hu with q | q
  · exact .inr ((List.pairwise_append.1 hl.1).2.2 u q a (List.mem_singleton.2 rfl))
  · exact .inl (List.mem_singleton.1 q)
 rcases List.mem_cons.1 hv with q | q
 · subst q
   rcases hua with r | r
   · rw [r];exact hax
   · exact t.trans _ _ _ r hax
 · exact hl.2.2 u hu v q
theorem InsO.done {α :Type} {cmp: α → α →Int} {l0 l:List α} {i:Nat} (h:InsO cmp l0 l i) (hi:l.length≤i):l.Perm l0∧Le cmp l:=⟨h.perm,by have:=h.le;rwa [zT hi] at this⟩
theorem swap_at {α :Type} (A:List α) (a x: α) (D:List α):((A++[a]++x :: D).set (A.length+1) a).set A.length x=A++x :: a :: D:=by
 rw [List.set_append_right _ _ (by simp),List.append_assoc,List.set_append_right _ _ (by simp)];simp
theorem at_x {α :Type} (A:List α) (x: α) (D:List α):(A++x :: D)[A.length]? =some x:=by simp
theorem at_a {α :Type} (A:List α) (a x: α) (D:List α):(A++[a]++x :: D)[A.length]? =some a:=by simp
theorem Raw.put2 {E:TypeId} {w:World} {g:Nat} {css:List (List Value)} {rest:List Value} (h:Raw 2 E w g css rest) {i:Nat} (hi:i<css.length) (u0 u1:Value):Raw 2 E ((w.setCell ⟨g,i * 2,none⟩ u0).setCell ⟨g,i * 2+1,none⟩ u1) g (css.set i [u0,u1]) rest:=by
 have hg:=zG hi;have hl:=h.len css[i] (List.getElem_mem hi);have h1:=h.set hg (j:=0) (by decide) u0;have h2:=h1.set (i:=i) (cs:=css[i].set 0 u0) (List.getElem?_set_self hi) (j:=1) (by decide) u1;rw [List.set_set] at h2;rw [Nat.add_zero] at h2
 match h3:css[i],hl with
 | [p,q],_=>rw [h3] at h2;exact h2
theorem Raw.setCells {k:Nat} {E:TypeId} {g:Nat} {css:List (List Value)}:∀ (vs:List Value) {w:World} {rest:List Value} (h:Raw k E w g css rest) {o:Nat} (ho:css.length * k≤o),∃ rest',Raw k E (w.setCells g o vs) g css rest'∧rest'.length=rest.length
 | [],w,rest,h,o,ho=>⟨rest,h,rfl⟩
 | v :: vs,w,rest,h,o,ho=>by
   obtain ⟨rest',h1,h2⟩:=Raw.setCells vs (h.setRest ho v) (o:=o+1) (by omega);exact ⟨rest',h1,by rw [h2,List.length_set]⟩
theorem kF1 (g:Nat):∀ (vs:List Value) (w:World) (o q:Nat),q≠g→(w.setCells g o vs).heap[q]? =w.heap[q]?
 | [],w,o,q,h=>rfl
 | v :: vs,w,o,q,h=>(kF1 g vs _ (o+1) q h).trans (kAA (fun e=>h e.symm))
theorem Below.setCells {B:Nat} {a:World} {g:Nat} (hg:B≤g):∀ (vs:List Value) {w:World} (h:Below B a w) (o:Nat),Below B a (w.setCells g o vs)
 | [],w,h,o=>h
 | v :: vs,w,h,o=>Below.setCells hg vs (h.setCell hg v) (o+1)
def kept {α :Type} [Inhabited α] (keep:Nat→Bool) (l:List α) (j:Nat):List α :=((List.range j).filter keep).map (fun i=>l.getD i default)
theorem kB7 {α :Type} [Inhabited α] (keep:Nat→Bool) (l:List α) (j:Nat):kept keep l (j+1)=if keep j then kept keep l j++[l.getD j default] else kept keep l j:=by
 unfold kept;rw [List.range_succ,List.filter_append,List.map_append];by_cases h:keep j=true
 · rw [if_pos h];simp [h]
 · rw [if_neg h];simp [h]
theorem kept_len {α :Type} [Inhabited α] (keep:Nat→Bool) (l:List α) (j:Nat):(kept keep l j).length≤j:=by
 unfold kept;rw [List.length_map];have:=List.length_filter_le keep (List.range j)
 rwa [List.length_range] at this
theorem kept_all {α :Type} [Inhabited α] (keep:Nat→Bool) (l:List α) (j:Nat) (hj:j≤l.length) (h:∀ i,i<j→keep i=true):kept keep l j=l.take j:=by
 induction j with
 | zero=>rfl
 | succ j ih=>rw [kB7,if_pos (h j (by omega)),ih (by omega) (fun i hi=>h i (by omega)),kAU (by omega)]
theorem kept_filter {α :Type} [Inhabited α] (p: α →Bool) (l:List α) (j:Nat) (hj:j≤l.length):kept (fun i=>p (l.getD i default)) l j=(l.take j).filter p:=by
 induction j with
 | zero=>rfl
 | succ j ih =>
   rw [kB7,kAU (by omega),List.filter_append,ih (by omega)];by_cases h:p (l.getD j default)=true
   · rw [if_pos h,List.filter_cons_of_pos h];rfl
   · rw [if_neg h,List.filter_cons_of_neg h];simp
structure KeepAt {α :Type} [Inhabited α] (keep:Nat→Bool) (l M:List α) (i:Nat):Prop where
 len:M.length=l.length
 front:M.take (kept keep l i).length=kept keep l i
 back:M.drop i=l.drop i
theorem KeepAt.at_ {α :Type} [Inhabited α] {keep:Nat→Bool} {l M:List α} {i:Nat} (h:KeepAt keep l M i) (k:Nat) (hk:i≤k):M.getD k default=l.getD k default:=by
 have h1:(M.drop i)[k - i]? =(l.drop i)[k - i]? :=by rw [h.back]
 rw [List.getElem?_drop,List.getElem?_drop,show i+(k - i)=k by omega] at h1;rw [zD,zD,h1]
theorem KeepAt.skip {α :Type} [Inhabited α] {keep:Nat→Bool} {l M:List α} {i:Nat} (h:KeepAt keep l M i) (hk:keep i=false):KeepAt keep l M (i+1) :=
 ⟨h.len,by rw [kB7,hk];exact h.front,by rw [← List.drop_drop,← List.drop_drop,h.back]⟩
theorem KeepAt.put {α :Type} [Inhabited α] {keep:Nat→Bool} {l M:List α} {i:Nat} (h:KeepAt keep l M i) (hi:i<l.length) (hk:keep i=true):KeepAt keep l (M.set (kept keep l i).length (l.getD i default)) (i+1):=by
 have hl:=kept_len keep l i;refine ⟨by rw [List.length_set];exact h.len,?_,?_⟩
 · rw [kB7,if_pos hk,zP,List.length_singleton,kAU (by rw [List.length_set,h.len];omega),List.take_set_of_le (zR _),h.front]
   congr 2
   rw [zD,List.getElem?_set_self (by rw [h.len];omega)];rfl
 · rw [List.drop_set_of_lt (by omega),← List.drop_drop,h.back,List.drop_drop]
theorem KeepAt.same {α :Type} [Inhabited α] {keep:Nat→Bool} {l:List α} {i:Nat} (hi:i≤l.length) (h:∀ j,j<i→keep j=true):KeepAt keep l l i :=
 ⟨rfl,by rw [kept_all keep l i hi h,zN,Nat.min_eq_left hi],rfl⟩
def newB {α :Type} [Inhabited α] (eq: α → α →Bool) (l:List α) (i:Nat):Bool:=i==0 || !eq (l.getD i default) (l.getD (i - 1) default)
theorem newB_cons {α :Type} [Inhabited α] (eq: α → α →Bool) (a: α) (l:List α) (i:Nat):newB eq (a :: l) (i+2)=newB eq l (i+1):=by
 unfold newB;simp
theorem kept_cons {α :Type} [Inhabited α] (keep:Nat→Bool) (a: α) (l:List α) (n:Nat):kept keep (a :: l) (n+1)=(if keep 0 then [a] else [])++kept (fun i=>keep (i+1)) l n:=by
 induction n with
 | zero=>rw [kB7];by_cases h:keep 0=true <;> simp [h,kept]
 | succ n ih =>
   rw [kB7 keep,ih,kB7 (fun i=>keep (i+1))];by_cases h:keep (n+1)=true
   · rw [if_pos h,if_pos h,List.append_assoc];simp
   · rw [if_neg h,if_neg h]
theorem compG_kept {α :Type} [Inhabited α] {eq: α → α →Bool} (he:∀ a b,eq a b=true ↔ a=b):∀ l:List α,kJA eq l=kept (newB eq l) l l.length
 | []=>by unfold kJA;rfl
 | [a]=>by unfold kJA;rfl
 | a :: b :: l=>by
   have e1:(fun i=>newB eq (a :: b :: l) (i+1+1))=(fun i=>newB eq (b :: l) (i+1)):=by
    funext i;exact newB_cons eq a (b :: l) i
   have k1:newB eq (a :: b :: l) (0+1)= !eq b a:=by simp [newB]
   have hR:kept (newB eq (a :: b :: l)) (a :: b :: l) (l.length+1+1)=a :: ((if (!eq b a)=true then [b] else [])++kept (fun i=>newB eq (b :: l) (i+1)) l l.length):=by
    rw [kept_cons,kept_cons,if_pos (show newB eq (a :: b :: l) 0=true from rfl),k1,e1];rfl
   have hB:∀ c: α,kept (newB eq (c :: l)) (c :: l) (l.length+1)=c :: kept (fun i=>newB eq (c :: l) (i+1)) l l.length:=fun c=>by
    rw [kept_cons,if_pos (show newB eq (c :: l) 0=true from rfl)];rfl
   rw [List.length_cons,List.length_cons,hR];unfold kJA;by_cases h:eq a b=true
   · have hab:=(he a b).1 h
     subst hab;rw [if_pos h,compG_kept he (a :: l),List.length_cons,hB a,h];rfl
   · have hba:(!eq b a)=true:=by
      rw [Bool.not_eq_true'];exact Bool.eq_false_iff.2 (fun q=>h ((he a b).2 ((he b a).1 q).symm))
     rw [if_neg h,compG_kept he (b :: l),List.length_cons,hB b,hba];rfl
 termination_by l=>l.length
theorem last_of {α :Type} (A:List α) (h:0<A.length):∃ A' a,A=A'++[a]:=by
 rcases List.eq_nil_or_concat A with q | ⟨A',a,q⟩
 · rw [q] at h;simp at h
 · exact ⟨A',a,by rw [q,List.concat_eq_append]⟩
theorem insSort_Lin {S:Blk} {w:World} {base:Nat} {v:Value} {l:List Lin} (h:Own RLin 40 S w base v l) (hbase:base≤w.heap.size) (hl:0<l.length) (hn:l.length≤1000) (g:FuncId) (hen:Ent1 g) (cmp:Lin→Lin→Int) (hc:PreC cmp)
 (hcmp:∀ (S' T':Blk) (W:World) (x y:Lin) (cs ds:List Value),RLin.rd S' W cs x→RLin.rd T' W ds y→Calls Tryz.prog g #[.agg cs.toArray,.agg ds.toArray] W fun e w'=>e= .returned (.int .i64 (cmp x y))∧Below W.heap.size W w') :
 Calls Tryz.prog 126 #[v,.int .i64 0,.int .i64 l.length,.func (.func g) #[] #[]] w fun e w'=>(e= .returned (.tuple #[])∧∃ m,m.Perm l∧Le cmp m∧Own RLin 40 S w' base v m∧Kl v v w w')∧Below base w w':=by
 obtain ⟨gb,c,css0,rest0,rfl,hgb,hR,hL,hlc,hcm,hsz⟩:=h.raw hl;have HR0:=hJ hR;have HL0:=hJ hL;have HI0:=hJ (InsO.start cmp l);have HS0:=hJ hsz;have HPre:=hJ hc;have HCmp:=hJ hcmp;clear hR hL hsz h hcmp hc;generalize hnl:l.length=n at *;have HN:=hJ hnl;clear hnl;go_enter func126,ntmps126
 go_wp2_with fail
 go_loopw [8] (fun iv wr=>∃ (i:Nat) (M:List Lin) (css:List (List Value)) (rest:List Value),1≤i∧i≤n∧iv= .int .i64 i∧Hid (InsO cmp l M i)∧Hid (Raw 2 40 wr gb css rest)∧Hid (Lies RLin S wr gb css M)∧Hid (css.length * 2+rest.length=c * 2)∧Kb gb w wr) (fun iv _=>n - (intOf iv).toNat)
 case atStart=>exact ⟨1,_,_,_,zR _,hl,rfl,HI0,HR0,HL0,HS0,Kb.refl _ _⟩
 case round =>
  obtain ⟨i,M,css,rest,hi1,hin,rfl,HI,HR,HL,HS,hB⟩:=hrel;have HMl:Hid (M.length=n):=hJ (by rw [HI.out.perm.length_eq];exact HN.out);by_cases hlt:i<n
  · have hiM:i<M.length:=by rw [HMl.out];exact hlt
    have HE:=hJ (HI.out.enter hiM);have HAi:Hid ((M.take i).length=i):=hJ (by rw [zN];omega);generalize M[i]=x0 at *;clear hiM
    go_wp2_with fail
    go_loopw [9] (fun jv wr=>∃ (j:Nat) (A:List Lin) (x:Lin) (B C M:List Lin) (css:List (List Value)) (rest:List Value),j≤i∧jv= .int .i64 j∧Hid (A.length=j∧A.length+B.length=i)∧Hid (InsAt cmp l M A x B C)∧Hid (Raw 2 40 wr gb css rest)∧Hid (Lies RLin S wr gb css M)∧Hid (css.length * 2+rest.length=c * 2)∧Kb gb w wr) (fun jv _=>(intOf jv).toNat)
    case atStart=>exact ⟨i,_,_,_,_,_,_,_,zR _,rfl,hJ ⟨HAi.out,by rw [HAi.out];rfl⟩,HE,HR,HL,HS,hB⟩
    case round =>
     obtain ⟨j,A,x,B,C,M,css,rest,hji,rfl,HA,HE,HR,HL,HS,hB⟩:=hrel;clear HI HMl HAi;by_cases hj:0<j
     · obtain ⟨A',a,rfl⟩:=last_of A (by rw [HA.out.1];exact hj)
       obtain ⟨jp,rfl⟩:∃ jp,j=jp+1:=⟨j - 1,by omega⟩
       have HA':Hid (A'.length=jp):=hJ (by have:=HA.out.1;simp at this;exact this);have hgx:M[jp+1]? =some x:=by rw [HE.out.eq];have:=at_x (A'++[a]) x (B++C);rwa [HA.out.1] at this
       have hga:M[jp]? =some a:=by rw [HE.out.eq];have:=at_a A' a x (B++C);rwa [HA'.out] at this
       obtain ⟨csx,hix,hrx⟩:=HL.out.2 _ _ hgx;obtain ⟨csa,hia,hra⟩:=HL.out.2 _ _ hga;have HC:=hJ (fun (t:Later wr)=>HCmp.out _ _ t.w x a csx csa (RLin.below hrx t.b) (RLin.below hra t.b));obtain ⟨_,rfl,ax,cx,rfl,hsx⟩:=hrx;obtain ⟨_,rfl,aa,ca,rfl,hsa⟩:=hra;have x0:=HR.out.cell hix 0 _ rfl;have x1:=HR.out.cell hix 1 _ rfl;have a0:=HR.out.cell hia 0 _ rfl;have a1:=HR.out.cell hia 1 _ rfl;rw [Nat.add_zero] at x0 a0;have HX:=hJ (⟨_,rfl,ax,cx,rfl,hsx⟩:RLin.rd (fun q=>S q∧q≠gb) wr [.int .i64 x.const,.slice ax x.terms.length cx] x);have HAa:=hJ (⟨_,rfl,aa,ca,rfl,hsa⟩:RLin.rd (fun q=>S q∧q≠gb) wr [.int .i64 a.const,.slice aa a.terms.length ca] a)
       have HIx:Hid (jp+1<css.length):=hJ (by
        rcases zF (jp+1) css.length with q | q
        · exact q
        · rw [List.getElem?_eq_none q] at hix;cases hix)
       have HMn:Hid (M.length=n):=hJ (by rw [HE.out.perm.length_eq];exact HN.out);have HIX:=hJ hix;have HIA:=hJ hia;have hgl:=HR.out.lt;clear hgx hga hix hia hsx hsa;have hjn:(jp:Int)+1<(n:Int):=by omega
       have hjn0:(jp:Int)<(n:Int):=by omega
       have hki:(((jp+1:Nat):Int) - 1)=(jp:Int):=by omega
       have hj0:(0:Int)<((jp+1:Nat):Int):=by omega
       have X0:=Later.cell x0;have X1:=Later.cell x1;have A0:=Later.cell a0;have A1:=Later.cell a1;clear x0 x1 a0 a1;have HDn:=hJ (fun q:cmp x a<0=>HE.out.down q);have HOut:=hJ (fun q:¬cmp x a<0=>HE.out.out HPre.out q);have HEq:Hid (M=A'++[a]++x :: (B++C)):=hJ HE.out.eq;generalize cmp x a=r at *;by_cases hr:r<0
       · have HDn2:=hJ (HDn.out hr)
         clear HDn HOut
         go_wp2_with fail
         refine kAC (by kernel_rfl) (by kernel_rfl) ?_
         repeat (go_big_quiet_step (first | fail | exact Later.call (HC.out _)))
         refine wpQuiet_nil ?_;rintro _ ⟨t9,rfl⟩;have HBq:Hid (Below wr.heap.size wr t9.w):=hJ t9.b;generalize t9.w=wq at *;clear X0 X1 A0 A1 HC;have HRq:=hJ (HR.out.below HBq.out hgl);have x0:=HRq.out.cell HIX.out 0 _ rfl;have x1:=HRq.out.cell HIX.out 1 _ rfl;have a0:=HRq.out.cell HIA.out 0 _ rfl;have a1:=HRq.out.cell HIA.out 1 _ rfl;rw [Nat.add_zero] at x0 a0;have f0:=HRq.out.fz ((jp+1) * 2);have f1:=HRq.out.fz ((jp+1) * 2+1);have f2:=HRq.out.fz (jp * 2);have f3:=HRq.out.fz (jp * 2+1)
         go_wp2_with fail
         go_region
         all_goals go_wp2_with fail
         have HLn:Hid (Lies RLin S ((((wq.setCell ⟨gb,(jp+1) * 2,none⟩ (.int .i64 a.const)).setCell ⟨gb,(jp+1) * 2+1,none⟩ (.slice aa a.terms.length ca)).setCell ⟨gb,jp * 2,none⟩ (.int .i64 x.const)).setCell ⟨gb,jp * 2+1,none⟩ (.slice ax x.terms.length cx)) gb ((css.set (jp+1) [.int .i64 a.const,.slice aa a.terms.length ca]).set jp [.int .i64 x.const,.slice ax x.terms.length cx]) (A'++x :: (a :: B++C))):=hJ (by
          have h1:=((((HL.out.below HBq.out).self ((jp+1) * 2) (.int .i64 a.const)).self ((jp+1) * 2+1) (.slice aa a.terms.length ca)).self (jp * 2) (.int .i64 x.const)).self (jp * 2+1) (.slice ax x.terms.length cx);have hf:∀ q,q≠gb→q<wr.heap.size→((((wq.setCell ⟨gb,(jp+1) * 2,none⟩ (.int .i64 a.const)).setCell ⟨gb,(jp+1) * 2+1,none⟩ (.slice aa a.terms.length ca)).setCell ⟨gb,jp * 2,none⟩ (.int .i64 x.const)).setCell ⟨gb,jp * 2+1,none⟩ (.slice ax x.terms.length cx)).heap[q]? =wr.heap[q]? :=fun q hne hlt=>(kAA (fun e=>hne e.symm)).trans ((kAA (fun e=>hne e.symm)).trans ((kAA (fun e=>hne e.symm)).trans ((kAA (fun e=>hne e.symm)).trans (HBq.out.block q hlt))))
          have h2:=(h1.set (jp+1) (RLin.frame HAa.out (fun q hq hlt=>hf q hq.2 hlt))).set jp (RLin.frame HX.out (fun q hq hlt=>hf q hq.2 hlt));have h3:=swap_at A' a x (B++C);rw [HA'.out,← HEq.out] at h3;rw [h3] at h2;exact h2)
         go_roundw
         case rel=>exact ⟨jp,A',x,a :: B,C,_,_,rest,by omega,by go_num,hJ ⟨HA'.out,by have:=HA.out.2;simp at this ⊢;omega⟩,HDn2,hJ ((HRq.out.put2 HIx.out _ _).put2 (i:=jp) (by rw [List.length_set];have:=HIx.out;omega) _ _).drew,hJ HLn.out.drew,hJ (by rw [List.length_set,List.length_set];exact HS.out),(((((hB.later HBq.out).set _ _).set _ _).set _ _).set _ _).drew⟩
         case measure=>simp [intOf]
       · have HOut2:=hJ (HOut.out hr)
         clear HDn HOut
         go_wp2_with fail
         refine kAC (by kernel_rfl) (by kernel_rfl) ?_
         repeat (go_big_quiet_step (first | fail | exact Later.call (HC.out _)))
         refine wpQuiet_nil ?_;rintro _ ⟨t9,rfl⟩;have HBq:Hid (Below wr.heap.size wr t9.w):=hJ t9.b;generalize t9.w=wq at *;clear X0 X1 A0 A1 HC
         go_wp2_with fail
         go_roundw
         case rel=>exact ⟨i+1,_,_,_,by omega,by omega,by go_num,hJ (by have h1:=HOut2.out;have h2:=HA.out.2;simp at h2;rwa [show A'.length+1+B.length+1=i+1 by omega] at h1),hJ (HR.out.below HBq.out hgl),hJ (HL.out.below HBq.out),HS,hB.later HBq.out⟩
         case measure=>simp [intOf];omega
     · obtain rfl:j=0:=by omega
       obtain rfl:A=[]:=zL HA.out.1;have HOut:=hJ HE.out.out0;have hg:¬(0:Int)<((0:Nat):Int):=by omega
       clear hj
       go_wp2_with fail
       refine kAC (by kernel_rfl) (by kernel_rfl) ?_
       repeat (go_big_quiet_step (fail))
       refine wpQuiet_nil ?_;rintro _ ⟨t9,rfl⟩;have HBq:Hid (Below wr.heap.size wr t9.w):=hJ t9.b;have hgl:=HR.out.lt;generalize t9.w=wq at *
       go_wp2_with fail
       go_roundw
       case rel=>exact ⟨i+1,_,_,_,by omega,by omega,by go_num,hJ (by have h1:=HOut.out;have h2:=HA.out.2;simp at h2;rwa [h2] at h1),hJ (HR.out.below HBq.out hgl),hJ (HL.out.below HBq.out),HS,hB.later HBq.out⟩
       case measure=>simp [intOf];omega
  · have HD:=hJ (HI.out.done (by rw [HMl.out];omega))
    go_wp2_with fail
    go_end0;have hO:=HR.out.own HL.out hgb (by rw [HMl.out];exact hlc) hcm HS.out;rw [HMl.out] at hO;exact ⟨⟨rfl,M,HD.out.1,HD.out.2,hO,hB.kl _ _ _ _⟩,hB.below hgb hbase⟩
theorem Raw.put7 {E:TypeId} {w:World} {g:Nat} {css:List (List Value)} {rest:List Value} (h:Raw 7 E w g css rest) {i:Nat} (hi:i<css.length) (u0 u1 u2 u3 u4 u5 u6:Value):Raw 7 E (((((((w.setCell ⟨g,i * 7,none⟩ u0).setCell ⟨g,i * 7+1,none⟩ u1).setCell ⟨g,i * 7+2,none⟩ u2).setCell ⟨g,i * 7+3,none⟩ u3).setCell ⟨g,i * 7+4,none⟩ u4).setCell ⟨g,i * 7+5,none⟩ u5).setCell ⟨g,i * 7+6,none⟩ u6) g (css.set i [u0,u1,u2,u3,u4,u5,u6]) rest:=by
 have hg:=zG hi;have hl:=h.len css[i] (List.getElem_mem hi);have h1:=h.set hg (j:=0) (by decide) u0;have h2:=h1.set (i:=i) (List.getElem?_set_self hi) (j:=1) (by decide) u1;rw [List.set_set] at h2;have h3:=h2.set (i:=i) (List.getElem?_set_self hi) (j:=2) (by decide) u2;rw [List.set_set] at h3;have h4:=h3.set (i:=i) (List.getElem?_set_self hi) (j:=3) (by decide) u3;rw [List.set_set] at h4;have h5:=h4.set (i:=i) (List.getElem?_set_self hi) (j:=4) (by decide) u4;rw [List.set_set] at h5;have h6:=h5.set (i:=i) (List.getElem?_set_self hi) (j:=5) (by decide) u5;rw [List.set_set] at h6;have h7:=h6.set (i:=i) (List.getElem?_set_self hi) (j:=6) (by decide) u6;rw [List.set_set] at h7;rw [Nat.add_zero] at h7
 match h8:css[i],hl with
 | [a,b,c,d,e,f,k],_=>rw [h8] at h7;exact h7
theorem insSort_Bnd {S:Blk} {w:World} {base:Nat} {v:Value} {l:List Bnd} (h:Own RBnd 42 S w base v l) (hbase:base≤w.heap.size) (hl:0<l.length) (hn:l.length≤1000) (g:FuncId) (hen:Ent1 g) (cmp:Bnd→Bnd→Int) (hc:PreC cmp)
 (hcmp:∀ (S' T':Blk) (W:World) (x y:Bnd) (cs ds:List Value),RBnd.rd S' W cs x→RBnd.rd T' W ds y→Calls Tryz.prog g #[.agg cs.toArray,.agg ds.toArray] W fun e w'=>e= .returned (.int .i64 (cmp x y))∧Below W.heap.size W w') :
 Calls Tryz.prog 191 #[v,.int .i64 0,.int .i64 l.length,.func (.func g) #[] #[]] w fun e w'=>(e= .returned (.tuple #[])∧∃ m,m.Perm l∧Le cmp m∧Own RBnd 42 S w' base v m∧Kl v v w w')∧Below base w w':=by
 obtain ⟨gb,c,css0,rest0,rfl,hgb,hR,hL,hlc,hcm,hsz⟩:=h.raw hl;have HR0:=hJ hR;have HL0:=hJ hL;have HI0:=hJ (InsO.start cmp l);have HS0:=hJ hsz;have HPre:=hJ hc;have HCmp:=hJ hcmp;clear hR hL hsz h hcmp hc;generalize hnl:l.length=n at *;have HN:=hJ hnl;clear hnl;go_enter func191,ntmps191
 go_wp2_with fail
 go_loopw [8] (fun iv wr=>∃ (i:Nat) (M:List Bnd) (css:List (List Value)) (rest:List Value),1≤i∧i≤n∧iv= .int .i64 i∧Hid (InsO cmp l M i)∧Hid (Raw 7 42 wr gb css rest)∧Hid (Lies RBnd S wr gb css M)∧Hid (css.length * 7+rest.length=c * 7)∧Kb gb w wr) (fun iv _=>n - (intOf iv).toNat)
 case atStart=>exact ⟨1,_,_,_,zR _,hl,rfl,HI0,HR0,HL0,HS0,Kb.refl _ _⟩
 case round =>
  obtain ⟨i,M,css,rest,hi1,hin,rfl,HI,HR,HL,HS,hB⟩:=hrel;have HMl:Hid (M.length=n):=hJ (by rw [HI.out.perm.length_eq];exact HN.out);by_cases hlt:i<n
  · have hiM:i<M.length:=by rw [HMl.out];exact hlt
    have HE:=hJ (HI.out.enter hiM);have HAi:Hid ((M.take i).length=i):=hJ (by rw [zN];omega);generalize M[i]=x0 at *;clear hiM
    go_wp2_with fail
    go_loopw [9] (fun jv wr=>∃ (j:Nat) (A:List Bnd) (x:Bnd) (B C M:List Bnd) (css:List (List Value)) (rest:List Value),j≤i∧jv= .int .i64 j∧Hid (A.length=j∧A.length+B.length=i)∧Hid (InsAt cmp l M A x B C)∧Hid (Raw 7 42 wr gb css rest)∧Hid (Lies RBnd S wr gb css M)∧Hid (css.length * 7+rest.length=c * 7)∧Kb gb w wr) (fun jv _=>(intOf jv).toNat)
    case atStart=>exact ⟨i,_,_,_,_,_,_,_,zR _,rfl,hJ ⟨HAi.out,by rw [HAi.out];rfl⟩,HE,HR,HL,HS,hB⟩
    case round =>
     obtain ⟨j,A,x,B,C,M,css,rest,hji,rfl,HA,HE,HR,HL,HS,hB⟩:=hrel;clear HI HMl HAi;by_cases hj:0<j
     · obtain ⟨A',a,rfl⟩:=last_of A (by rw [HA.out.1];exact hj)
       obtain ⟨jp,rfl⟩:∃ jp,j=jp+1:=⟨j - 1,by omega⟩
       have HA':Hid (A'.length=jp):=hJ (by have:=HA.out.1;simp at this;exact this);have hgx:M[jp+1]? =some x:=by rw [HE.out.eq];have:=at_x (A'++[a]) x (B++C);rwa [HA.out.1] at this
       have hga:M[jp]? =some a:=by rw [HE.out.eq];have:=at_a A' a x (B++C);rwa [HA'.out] at this
       obtain ⟨csx,hix,hrx⟩:=HL.out.2 _ _ hgx;obtain ⟨csa,hia,hra⟩:=HL.out.2 _ _ hga;have HC:=hJ (fun (t:Later wr)=>HCmp.out _ _ t.w x a csx csa (RBnd.below hrx t.b) (RBnd.below hra t.b));obtain ⟨_,_,rfl,⟨tx,tcx,rfl,hsx⟩,⟨dx,dcx,rfl,hdx⟩⟩:=hrx;obtain ⟨_,_,rfl,⟨ta,tca,rfl,hsa⟩,⟨da,dca,rfl,hda⟩⟩:=hra;have x0:=HR.out.cell hix 0 _ rfl;have x1:=HR.out.cell hix 1 _ rfl;have x2:=HR.out.cell hix 2 _ rfl;have x3:=HR.out.cell hix 3 _ rfl;have x4:=HR.out.cell hix 4 _ rfl;have x5:=HR.out.cell hix 5 _ rfl;have x6:=HR.out.cell hix 6 _ rfl;have a0:=HR.out.cell hia 0 _ rfl;have a1:=HR.out.cell hia 1 _ rfl;have a2:=HR.out.cell hia 2 _ rfl;have a3:=HR.out.cell hia 3 _ rfl;have a4:=HR.out.cell hia 4 _ rfl;have a5:=HR.out.cell hia 5 _ rfl;have a6:=HR.out.cell hia 6 _ rfl;rw [Nat.add_zero] at x0 a0;have HX:=hJ (⟨_,_,rfl,⟨tx,tcx,rfl,hsx⟩,⟨dx,dcx,rfl,hdx⟩⟩:RBnd.rd (fun q=>S q∧q≠gb) wr [.int .i64 x.kind,.string x.v,.int .i64 x.dim.const,.slice tx x.dim.terms.length tcx,.string x.row.row,.slice dx x.row.dims.length dcx,.string x.elem] x);have HAa:=hJ (⟨_,_,rfl,⟨ta,tca,rfl,hsa⟩,⟨da,dca,rfl,hda⟩⟩:RBnd.rd (fun q=>S q∧q≠gb) wr [.int .i64 a.kind,.string a.v,.int .i64 a.dim.const,.slice ta a.dim.terms.length tca,.string a.row.row,.slice da a.row.dims.length dca,.string a.elem] a)
       have HIx:Hid (jp+1<css.length):=hJ (by
        rcases zF (jp+1) css.length with q | q
        · exact q
        · rw [List.getElem?_eq_none q] at hix;cases hix)
       have HMn:Hid (M.length=n):=hJ (by rw [HE.out.perm.length_eq];exact HN.out);have HIX:=hJ hix;have HIA:=hJ hia;have hgl:=HR.out.lt;clear hgx hga hix hia hsx hsa hdx hda;have hjn:(jp:Int)+1<(n:Int):=by omega
       have hjn0:(jp:Int)<(n:Int):=by omega
       have hki:(((jp+1:Nat):Int) - 1)=(jp:Int):=by omega
       have hj0:(0:Int)<((jp+1:Nat):Int):=by omega
       have X0:=Later.cell x0;have X1:=Later.cell x1;have X2:=Later.cell x2;have X3:=Later.cell x3;have X4:=Later.cell x4;have X5:=Later.cell x5;have X6:=Later.cell x6;have A0:=Later.cell a0;have A1:=Later.cell a1;have A2:=Later.cell a2;have A3:=Later.cell a3;have A4:=Later.cell a4;have A5:=Later.cell a5;have A6:=Later.cell a6;clear x0 x1 x2 x3 x4 x5 x6 a0 a1 a2 a3 a4 a5 a6;have HDn:=hJ (fun q:cmp x a<0=>HE.out.down q);have HOut:=hJ (fun q:¬cmp x a<0=>HE.out.out HPre.out q);have HEq:Hid (M=A'++[a]++x :: (B++C)):=hJ HE.out.eq;generalize cmp x a=r at *;by_cases hr:r<0
       · have HDn2:=hJ (HDn.out hr)
         clear HDn HOut
         go_wp2_with fail
         refine kAC (by kernel_rfl) (by kernel_rfl) ?_
         repeat (go_big_quiet_step (first | fail | exact Later.call (HC.out _)))
         refine wpQuiet_nil ?_;rintro _ ⟨t9,rfl⟩;have HBq:Hid (Below wr.heap.size wr t9.w):=hJ t9.b;generalize t9.w=wq at *;clear X0 X1 X2 X3 X4 X5 X6 A0 A1 A2 A3 A4 A5 A6 HC;have HRq:=hJ (HR.out.below HBq.out hgl);have x0:=HRq.out.cell HIX.out 0 _ rfl;have x1:=HRq.out.cell HIX.out 1 _ rfl;have x2:=HRq.out.cell HIX.out 2 _ rfl;have x3:=HRq.out.cell HIX.out 3 _ rfl;have x4:=HRq.out.cell HIX.out 4 _ rfl;have x5:=HRq.out.cell HIX.out 5 _ rfl;have x6:=HRq.out.cell HIX.out 6 _ rfl;have a0:=HRq.out.cell HIA.out 0 _ rfl;have a1:=HRq.out.cell HIA.out 1 _ rfl;have a2:=HRq.out.cell HIA.out 2 _ rfl;have a3:=HRq.out.cell HIA.out 3 _ rfl;have a4:=HRq.out.cell HIA.out 4 _ rfl;have a5:=HRq.out.cell HIA.out 5 _ rfl;have a6:=HRq.out.cell HIA.out 6 _ rfl;rw [Nat.add_zero] at x0 a0;have f0:=HRq.out.fz ((jp+1) * 7);have f1:=HRq.out.fz ((jp+1) * 7+1);have f2:=HRq.out.fz ((jp+1) * 7+2);have f3:=HRq.out.fz ((jp+1) * 7+3);have f4:=HRq.out.fz ((jp+1) * 7+4);have f5:=HRq.out.fz ((jp+1) * 7+5);have f6:=HRq.out.fz ((jp+1) * 7+6);have f7:=HRq.out.fz (jp * 7);have f8:=HRq.out.fz (jp * 7+1);have f9:=HRq.out.fz (jp * 7+2);have f10:=HRq.out.fz (jp * 7+3);have f11:=HRq.out.fz (jp * 7+4);have f12:=HRq.out.fz (jp * 7+5);have f13:=HRq.out.fz (jp * 7+6)
         go_wp2_with fail
         go_region
         all_goals go_wp2_with fail
         have HLn:Hid (Lies RBnd S ((((((((((((((wq.setCell ⟨gb,(jp+1) * 7,none⟩ (.int .i64 a.kind)).setCell ⟨gb,(jp+1) * 7+1,none⟩ (.string a.v)).setCell ⟨gb,(jp+1) * 7+2,none⟩ (.int .i64 a.dim.const)).setCell ⟨gb,(jp+1) * 7+3,none⟩ (.slice ta a.dim.terms.length tca)).setCell ⟨gb,(jp+1) * 7+4,none⟩ (.string a.row.row)).setCell ⟨gb,(jp+1) * 7+5,none⟩ (.slice da a.row.dims.length dca)).setCell ⟨gb,(jp+1) * 7+6,none⟩ (.string a.elem)).setCell ⟨gb,jp * 7,none⟩ (.int .i64 x.kind)).setCell ⟨gb,jp * 7+1,none⟩ (.string x.v)).setCell ⟨gb,jp * 7+2,none⟩ (.int .i64 x.dim.const)).setCell ⟨gb,jp * 7+3,none⟩ (.slice tx x.dim.terms.length tcx)).setCell ⟨gb,jp * 7+4,none⟩ (.string x.row.row)).setCell ⟨gb,jp * 7+5,none⟩ (.slice dx x.row.dims.length dcx)).setCell ⟨gb,jp * 7+6,none⟩ (.string x.elem)) gb ((css.set (jp+1) [.int .i64 a.kind,.string a.v,.int .i64 a.dim.const,.slice ta a.dim.terms.length tca,.string a.row.row,.slice da a.row.dims.length dca,.string a.elem]).set jp [.int .i64 x.kind,.string x.v,.int .i64 x.dim.const,.slice tx x.dim.terms.length tcx,.string x.row.row,.slice dx x.row.dims.length dcx,.string x.elem]) (A'++x :: (a :: B++C))):=hJ (by
          have h1:=(((((((((((((((HL.out.below HBq.out).self ((jp+1) * 7) (.int .i64 a.kind)).self ((jp+1) * 7+1) (.string a.v)).self ((jp+1) * 7+2) (.int .i64 a.dim.const)).self ((jp+1) * 7+3) (.slice ta a.dim.terms.length tca)).self ((jp+1) * 7+4) (.string a.row.row)).self ((jp+1) * 7+5) (.slice da a.row.dims.length dca)).self ((jp+1) * 7+6) (.string a.elem)).self (jp * 7) (.int .i64 x.kind)).self (jp * 7+1) (.string x.v)).self (jp * 7+2) (.int .i64 x.dim.const)).self (jp * 7+3) (.slice tx x.dim.terms.length tcx)).self (jp * 7+4) (.string x.row.row)).self (jp * 7+5) (.slice dx x.row.dims.length dcx)).self (jp * 7+6) (.string x.elem))
          have hf:∀ q,q≠gb→q<wr.heap.size→((((((((((((((wq.setCell ⟨gb,(jp+1) * 7,none⟩ (.int .i64 a.kind)).setCell ⟨gb,(jp+1) * 7+1,none⟩ (.string a.v)).setCell ⟨gb,(jp+1) * 7+2,none⟩ (.int .i64 a.dim.const)).setCell ⟨gb,(jp+1) * 7+3,none⟩ (.slice ta a.dim.terms.length tca)).setCell ⟨gb,(jp+1) * 7+4,none⟩ (.string a.row.row)).setCell ⟨gb,(jp+1) * 7+5,none⟩ (.slice da a.row.dims.length dca)).setCell ⟨gb,(jp+1) * 7+6,none⟩ (.string a.elem)).setCell ⟨gb,jp * 7,none⟩ (.int .i64 x.kind)).setCell ⟨gb,jp * 7+1,none⟩ (.string x.v)).setCell ⟨gb,jp * 7+2,none⟩ (.int .i64 x.dim.const)).setCell ⟨gb,jp * 7+3,none⟩ (.slice tx x.dim.terms.length tcx)).setCell ⟨gb,jp * 7+4,none⟩ (.string x.row.row)).setCell ⟨gb,jp * 7+5,none⟩ (.slice dx x.row.dims.length dcx)).setCell ⟨gb,jp * 7+6,none⟩ (.string x.elem)).heap[q]? =wr.heap[q]? :=fun q hne hlt=>(kAA (fun e=>hne e.symm)).trans ((kAA (fun e=>hne e.symm)).trans ((kAA (fun e=>hne e.symm)).trans ((kAA (fun e=>hne e.symm)).trans ((kAA (fun e=>hne e.symm)).trans ((kAA (fun e=>hne e.symm)).trans ((kAA (fun e=>hne e.symm)).trans ((kAA (fun e=>hne e.symm)).trans ((kAA (fun e=>hne e.symm)).trans ((kAA (fun e=>hne e.symm)).trans ((kAA (fun e=>hne e.symm)).trans ((kAA (fun e=>hne e.symm)).trans ((kAA (fun e=>hne e.symm)).trans ((kAA (fun e=>hne e.symm)).trans (HBq.out.block q hlt))))))))))))))
          have h2:=(h1.set (jp+1) (RBnd.frame HAa.out (fun q hq hlt=>hf q hq.2 hlt))).set jp (RBnd.frame HX.out (fun q hq hlt=>hf q hq.2 hlt));have h3:=swap_at A' a x (B++C);rw [HA'.out,← HEq.out] at h3;rw [h3] at h2;exact h2)
         go_roundw
         case rel=>exact ⟨jp,A',x,a :: B,C,_,_,rest,by omega,by go_num,hJ ⟨HA'.out,by have:=HA.out.2;simp at this ⊢;omega⟩,HDn2,hJ ((HRq.out.put7 HIx.out _ _ _ _ _ _ _).put7 (i:=jp) (by rw [List.length_set];have:=HIx.out;omega) _ _ _ _ _ _ _).drew,hJ HLn.out.drew,hJ (by rw [List.length_set,List.length_set];exact HS.out),(((((((((((((((hB.later HBq.out).set _ _).set _ _).set _ _).set _ _).set _ _).set _ _).set _ _).set _ _).set _ _).set _ _).set _ _).set _ _).set _ _).set _ _).drew⟩
         case measure=>simp [intOf]
       · have HOut2:=hJ (HOut.out hr)
         clear HDn HOut
         go_wp2_with fail
         refine kAC (by kernel_rfl) (by kernel_rfl) ?_
         repeat (go_big_quiet_step (first | fail | exact Later.call (HC.out _)))
         refine wpQuiet_nil ?_;rintro _ ⟨t9,rfl⟩;have HBq:Hid (Below wr.heap.size wr t9.w):=hJ t9.b;generalize t9.w=wq at *;clear X0 X1 X2 X3 X4 X5 X6 A0 A1 A2 A3 A4 A5 A6 HC
         go_wp2_with fail
         go_roundw
         case rel=>exact ⟨i+1,_,_,_,by omega,by omega,by go_num,hJ (by have h1:=HOut2.out;have h2:=HA.out.2;simp at h2;rwa [show A'.length+1+B.length+1=i+1 by omega] at h1),hJ (HR.out.below HBq.out hgl),hJ (HL.out.below HBq.out),HS,hB.later HBq.out⟩
         case measure=>simp [intOf];omega
     · obtain rfl:j=0:=by omega
       obtain rfl:A=[]:=zL HA.out.1;have HOut:=hJ HE.out.out0;have hg:¬(0:Int)<((0:Nat):Int):=by omega
       clear hj
       go_wp2_with fail
       refine kAC (by kernel_rfl) (by kernel_rfl) ?_
       repeat (go_big_quiet_step (fail))
       refine wpQuiet_nil ?_;rintro _ ⟨t9,rfl⟩;have HBq:Hid (Below wr.heap.size wr t9.w):=hJ t9.b;have hgl:=HR.out.lt;generalize t9.w=wq at *
       go_wp2_with fail
       go_roundw
       case rel=>exact ⟨i+1,_,_,_,by omega,by omega,by go_num,hJ (by have h1:=HOut.out;have h2:=HA.out.2;simp at h2;rwa [h2] at h1),hJ (HR.out.below HBq.out hgl),hJ (HL.out.below HBq.out),HS,hB.later HBq.out⟩
       case measure=>simp [intOf];omega
  · have HD:=hJ (HI.out.done (by rw [HMl.out];omega))
    go_wp2_with fail
    go_end0;have hO:=HR.out.own HL.out hgb (by rw [HMl.out];exact hlc) hcm HS.out;rw [HMl.out] at hO;exact ⟨⟨rfl,M,HD.out.1,HD.out.2,hO,hB.kl _ _ _ _⟩,hB.below hgb hbase⟩
theorem insSort_Bnd0 (a:Option Addr) (c:Nat) (w:World) (g:FuncId):Calls Tryz.prog 191 #[.slice a 0 c,.int .i64 0,.int .i64 0,.func (.func g) #[] #[]] w fun e w'=>e= .returned (.tuple #[])∧w=w':=by
 go_enter func191,ntmps191
 go_wp2_with fail
 go_loopw [8] (fun i wr=>i= .int .i64 1∧w=wr) (fun _ _=>0)
 case atStart=>exact ⟨rfl,rfl⟩
 case round =>
  obtain ⟨rfl,rfl⟩:=hrel
  go_wp2_with fail
  go_end0;exact ⟨rfl,rfl⟩
def SrtedB (S:Blk) (base:Nat) (cmp:Bnd→Bnd→Int) (l:List Bnd) (v:Value) (w w':World):Prop:=∃ m,m.Perm l∧Le cmp m∧Own RBnd 42 S w' base v m∧Kl v v w w'
theorem insSort_BndA {S:Blk} {w:World} {base:Nat} {v:Value} {l:List Bnd} (h:Own RBnd 42 S w base v l) (hbase:base≤w.heap.size) (hn:l.length≤12) (g:FuncId) (hen:Ent1 g) (cmp:Bnd→Bnd→Int) (hc:PreC cmp)
 (hcmp:∀ (S' T':Blk) (W:World) (x y:Bnd) (cs ds:List Value),RBnd.rd S' W cs x→RBnd.rd T' W ds y→Calls Tryz.prog g #[.agg cs.toArray,.agg ds.toArray] W fun e w'=>e= .returned (.int .i64 (cmp x y))∧Below W.heap.size W w') :
 Calls Tryz.prog 191 #[v,.int .i64 0,.int .i64 l.length,.func (.func g) #[] #[]] w fun e w'=>(e= .returned (.tuple #[])∧SrtedB S base cmp l v w w')∧Below base w w':=by
 by_cases hl:0<l.length
 · exact insSort_Bnd h hbase hl (by omega) g hen cmp hc hcmp
 · obtain rfl:l=[]:=zL (by omega)
   obtain ⟨a,c,rfl,_⟩:=h.sl;refine (insSort_Bnd0 a c w g).mono ?_;rintro e _ ⟨rfl,rfl⟩;exact ⟨⟨rfl,[],List.Perm.refl _,List.Pairwise.nil,h,Kl.refl _ _⟩,zB _ _⟩
theorem pdq_Bnd {S:Blk} {w:World} {base:Nat} {v:Value} {l:List Bnd} (h:Own RBnd 42 S w base v l) (hbase:base≤w.heap.size) (hn:l.length≤12) (lim:Int) (g:FuncId) (hen:Ent1 g) (cmp:Bnd→Bnd→Int) (hc:PreC cmp)
 (hcmp:∀ (S' T':Blk) (W:World) (x y:Bnd) (cs ds:List Value),RBnd.rd S' W cs x→RBnd.rd T' W ds y→Calls Tryz.prog g #[.agg cs.toArray,.agg ds.toArray] W fun e w'=>e= .returned (.int .i64 (cmp x y))∧Below W.heap.size W w') :
 Calls Tryz.prog 117 #[v,.int .i64 0,.int .i64 l.length,.int .i64 lim,.func (.func g) #[] #[]] w fun e w'=>(e= .returned (.tuple #[])∧SrtedB S base cmp l v w w')∧Below base w w':=by
 have HI:=hJ (insSort_BndA h hbase hn g hen cmp hc hcmp);obtain ⟨a,m,c,rfl⟩:=h.shape;clear h hcmp hc;generalize SrtedB S base cmp l (.slice a m c) w=Q at *;generalize l.length=n at *;have h12:(n:Int)≤12:=by omega
 go_enter func117,ntmps117
 go_wp2_with fail
 go_loopw [1,2] (fun a b wr=>a= .int .i64 0∧b= .int .i64 n∧w=wr) (fun _ _ _=>0)
 case atStart=>exact ⟨rfl,rfl,rfl⟩
 case round =>
  obtain ⟨rfl,rfl,rfl⟩:=hrel
  go_wp2_with fail
  refine HI.out.mono ?_;rintro e w1 ⟨⟨rfl,hs⟩,hb⟩;have HS:=hJ hs;clear hs
  go_wp2_with fail
  refine bodyPost_ret (results_none rfl _ _ _) rfl ?_;exact ⟨⟨rfl,HS.out⟩,hb⟩
theorem sortFunc_Bnd {S:Blk} {w:World} {base:Nat} {v:Value} {l:List Bnd} (h:Own RBnd 42 S w base v l) (hbase:base≤w.heap.size) (hn:l.length≤12) (g:FuncId) (hen:Ent1 g) (cmp:Bnd→Bnd→Int) (hc:PreC cmp)
 (hcmp:∀ (S' T':Blk) (W:World) (x y:Bnd) (cs ds:List Value),RBnd.rd S' W cs x→RBnd.rd T' W ds y→Calls Tryz.prog g #[.agg cs.toArray,.agg ds.toArray] W fun e w'=>e= .returned (.int .i64 (cmp x y))∧Below W.heap.size W w') :
 Calls Tryz.prog 56 #[v,.func (.func g) #[] #[]] w fun e w'=>(e= .returned (.tuple #[])∧SrtedB S base cmp l v w w')∧Below base w w':=by
 have HI:=hJ (fun lim=>pdq_Bnd h hbase hn lim g hen cmp hc hcmp);obtain ⟨a,m,c,rfl⟩:=h.shape;obtain ⟨_,_,q,_⟩:=h.sl;rw [Value.slice.injEq] at q;obtain ⟨-,rfl,-⟩:=q;clear h hcmp hc;generalize SrtedB S base cmp l _ w=Q at *;generalize l.length=n at *;have wr:IntKind.u64.wrap (n:Int)=n:=by simp [IntKind.wrap,IntKind.bits,IntKind.signed];omega
 go_enter func56,ntmps56
 go_wp2_with fail
 refine (Tryz.bits_Len (n:Int) _ (by omega) (by omega)).mono ?_;rintro e w1 ⟨rfl,rfl⟩
 go_wp2_with fail
 refine (HI.out _).mono ?_;rintro e w2 ⟨⟨rfl,hs⟩,hb⟩;have HS:=hJ hs;clear hs
 go_wp2_with fail
 go_end0;exact ⟨⟨rfl,HS.out⟩,hb⟩
def RRow:Rep (List Value):=⟨5,fun _ _ cs x=>cs=x∧x.length=5∧∀ u ∈ x,u.oneCell'=true,by decide,by rintro S w cs x ⟨rfl,h,_⟩;exact h,by rintro S w cs x ⟨rfl,_,h⟩;exact h,fun h _=>h,fun h _=>h⟩
theorem elemRow:ElemOf Tryz.prog 266 271 RRow.size 56:=⟨by kernel_rfl,by kernel_rfl⟩
theorem run_insert0 (w:World) (r clock:Nat) (k v:Int) (hb:w.heap[r]? =some (.map #[] clock)) :
 (Instr.mapUpdate 269 (.map (some r)) (.int .i64 k) (.int .i64 v)).run Tryz.prog w= .ok () { w with heap:=w.heap.setIfInBounds r (.map #[{ key:=.int .i64 k,val:=.int .i64 v,born:=clock }] (clock+1)) }:=by
 have hk:=underlying3;have hf:Instr.findNow (.int .i64) (.int .i64 k) ([]:List MapEntry) 0=some none:=rfl;have hc:(Instr.checkKey false 10000 3 (.int .i64 k)).run Tryz.prog w= .ok () w:=MapKept.run_checkKey (k:=.int .i64 k) hk (by simp [MapKept.IsKey]) false 9999;simp [Instr.mapUpdate,run_underlying underlying269,MapKept.run_getObj_map hb,hc,MapKept.run_findKey hk hf,MapKept.run_setObj_map _ hb,Result.andThen]
theorem insert_new (W:World) (k v:Int):∃ W6:World,(Instr.mapUpdate 269 (.map (some W.heap.size)) (.int .i64 k) (.int .i64 v)).run Tryz.prog (W.alloc (.map #[] 0)).drew= .ok () W6∧W6.heap.size=W.heap.size+1∧Below W.heap.size W W6:=by
 refine ⟨_,run_insert0 (W.alloc (.map #[] 0)).drew W.heap.size 0 k v (by show (W.heap.push _)[_]? =_;simp),by simp,rfl,rfl,rfl,by simp,fun q hq=>?_⟩
 show ((W.heap.push _).setIfInBounds W.heap.size _)[q]? =_
 rw [Array.getElem?_setIfInBounds_ne (by omega),Array.getElem?_push,if_neg (by omega)]
theorem row_own {w:World} {B:Nat} {a:Option Addr} {m c:Nat} {cells:List Value} (h:Own RRow 271 (fun _=>False) w B (.slice a m c) [cells]):∃ g rest,a=some ⟨g,0,none⟩∧m=1∧B≤g∧Bx w g 271 (cells++rest):=by
 obtain ⟨g,c',css,rest,hv,hB,hraw,hl,_⟩:=h.raw (Nat.lt_succ_self 0);rw [Value.slice.injEq] at hv;obtain ⟨rfl,rfl,rfl⟩:=hv;obtain ⟨cs,e,rfl,_⟩:=hl.2 0 cells rfl;have h1:css.length=1:=hl.1
 have e2:css=[cs]:=by
  match css,h1,e with
  | [x],_,e=>simp at e;rw [e]
 refine ⟨g,rest,rfl,rfl,hB,?_⟩;have:=hraw.bx;rw [e2] at this
 simpa using this
theorem cmpS_anti (a b:Str):cmpS b a= -cmpS a b:=by
 unfold cmpS;cases h:slt a b with
 | true=>rw [kFK h];rfl
 | false=>cases slt b a <;> rfl
theorem cmpS_le (a b:Str):cmpS a b≤0 ↔ slt b a=false:=by
 unfold cmpS;cases h:slt a b with
 | true=>rw [kFK h];decide
 | false=>cases slt b a <;> decide
def cmpV (x y:Bnd):Int:=cmpS x.v y.v
theorem preV:PreC cmpV:=⟨fun a b=>cmpS_anti a.v b.v,fun a b c h1 h2=>by
 have h1:cmpS a.v b.v≤0:=h1;have h2:cmpS b.v c.v≤0:=h2
 show cmpS a.v c.v≤0
 rw [cmpS_le] at h1 h2 ⊢;rw [Bool.eq_false_iff];intro q;by_cases e:slt a.v b.v=true
 · have:=kEK q e
   rw [this] at h2;cases h2
 · have e:slt a.v b.v=false:=by simpa using e
   have:=kFJ e h1;rw [this] at q;rw [q] at h2;cases h2⟩
theorem solve_cmp {S T:Blk} {x y:Bnd} {cs ds:List Value} {w:World} (h:RBnd.rd S w cs x) (h2:RBnd.rd T w ds y) :
 Calls Tryz.prog 243 #[.agg cs.toArray,.agg ds.toArray] w fun e w'=>e= .returned (.int .i64 (cmpV x y))∧Below w.heap.size w w':=by
 obtain ⟨_,_,rfl,⟨a1,c1,rfl,_⟩,⟨a2,c2,rfl,_⟩⟩:=h;obtain ⟨_,_,rfl,⟨a3,c3,rfl,_⟩,⟨a4,c4,rfl,_⟩⟩:=h2;obtain ⟨B0,ya,yb,hW0⟩:=box2 w 42 [.int .i64 x.kind,.string x.v,.int .i64 x.dim.const,.slice a1 x.dim.terms.length c1,.string x.row.row,.slice a2 x.row.dims.length c2,.string x.elem] 42 [.int .i64 y.kind,.string y.v,.int .i64 y.dim.const,.slice a3 y.dim.terms.length c3,.string y.row.row,.slice a4 y.row.dims.length c4,.string y.elem];have xa0:=box0 ya 0 _ rfl;have xa1:=box0 ya 1 _ rfl;have xa2:=box0 ya 2 _ rfl;have xa3:=box0 ya 3 _ rfl;have xa4:=box0 ya 4 _ rfl;have xa5:=box0 ya 5 _ rfl;have xa6:=box0 ya 6 _ rfl;have xb0:=box0 yb 0 _ rfl;have xb1:=box0 yb 1 _ rfl;have xb2:=box0 yb 2 _ rfl;have xb3:=box0 yb 3 _ rfl;have xb4:=box0 yb 4 _ rfl;have xb5:=box0 yb 5 _ rfl;have xb6:=box0 yb 6 _ rfl;clear ya yb;go_enter func243,ntmps243
 go_wp2_with fail
 refine (kH5 _ _ _).mono ?_;rintro e _ ⟨rfl,rfl⟩
 go_wp2_with fail
 go_ret;exact ⟨rfl,B0.out⟩
theorem vars_one {m:List (List UInt8)} {s:Str} (h:VarsOf [s] m):m.map mkS=[s]:=by
 obtain ⟨h1,h2⟩:=h;cases m with
 | nil =>
   have:=(h2 s.data.toList).2 (by rw [List.mem_singleton];rfl);cases this
 | cons b m =>
   have e:=List.mem_singleton.1 ((h2 b).1 (zM ..));cases m with
   | nil=>rw [List.map_cons,e];rfl
   | cons b2 m =>
     have e2:=List.mem_singleton.1 ((h2 b2).1 (zO _ (zM ..)));have hlt:=(List.pairwise_cons.1 h1).1 b2 (zM ..)
     have hb:b=b2:=by
      have e3:mkS b=mkS b2:=e.trans e2.symm;have e4:=congrArg (fun s:Str=>s.data.toList) e3;exact e4
     rw [hb] at hlt;exact absurd hlt (List.lt_irrefl _)
theorem vars_none {m:List (List UInt8)} (h:VarsOf [] m):m=[]:=by
 cases m with
 | nil=>rfl
 | cons b m=>have:=(h.2 b).1 (zM ..);cases this
theorem eqn_zero0 (a:Option Addr) (c:Nat) (w:World):Calls Tryz.prog 241 #[.agg #[.int .i64 0,.slice a 0 c]] w fun e w'=>e= .returned (.bool true)∧Below w.heap.size w w':=by
 obtain ⟨B0,ya,hW0⟩:=box1 w 40 [.int .i64 0,.slice a 0 c];have xa0:=box0 ya 0 _ rfl;have xa1:=box0 ya 1 _ rfl;clear ya;go_enter func241,ntmps241
 go_wp2_with fail
 go_ret;exact ⟨rfl,B0.out⟩
theorem qL_vars:([qL]:List Lin).flatMap kAL=[nnS]:=rfl
theorem nn_no:∀ s ∈ ([nnS]:List Str),bt s 0≠95:=fun s hs=>by rw [List.mem_singleton] at hs;subst hs;decide
theorem qL_sz:∀ x ∈ ([qL]:List Lin),szL x∧x.terms.length≤1000000:=fun x hx=>by rw [List.mem_singleton] at hx;subst hx;exact ⟨kE0 kHL,by decide⟩
theorem eqn_Solve {S:Blk} {w:World} {a:Option Addr} {c:Nat} (h:Sl RLin S w a 1 c [qL]) (E:Env w) :
 Calls Tryz.prog 175 #[.slice a 1 c,.int .i64 1] w fun e w'=>(∃ ab cb,e= .returned (.tuple #[.slice ab 1 cb,.int .i64 1,.agg #[.slice none 0 0,.int .i64 0],.int .i64 0])∧Sl RBnd (fun q=>w.heap.size≤q) w' ab 1 cb [bd3])∧Below w.heap.size w w':=by
 have H:=hJ (h.mono (S':=fun q=>q<w.heap.size) (fun q _ hlt=>hlt));have HE:=hJ (fun (W:World) (hW:Below w.heap.size w W)=>E.below hW);have h8:=E.big;clear h E;obtain ⟨W1,hW1⟩:∃ q,w.alloc (.cells #[.slice none 0 0,.int .i64 0] 192)=q:=⟨_,rfl⟩
 have HB1:Hid (Below w.heap.size w W1):=hJ (by rw [← hW1];exact (zB _ _).alloc (zR _) _);have HF:Hid (Bx W1 w.heap.size 192 [.slice none 0 0,.int .i64 0]):=hJ (by rw [← hW1];exact Bx.fresh w _ _);have HV:=hJ (eqn_valid [qL] a 1 c W1 (H.out.below HB1.out) (fun x hx=>(qL_sz x hx).1) (HE.out _ HB1.out));rw [show (!([qL]:List Lin).any (fun x=> !kAB x))=true from by rw [List.any_cons,kHL];rfl] at HV;have hfl:=HF.out.lt;go_enter func175,ntmps175
 go_wp2_with fail
 clear hW1;refine (HV.out).mono ?_;rintro e w2 ⟨rfl,hb2⟩;have HB2:=hJ (HB1.out.trans (hb2.mono HB1.out.size));have HG:=hJ (eqn_greatest [qL] a 1 c w2 (H.out.below HB2.out) qL_sz (by decide) (by rw [qL_vars];decide) (by rw [qL_vars];exact nn_no));replace HF:=hJ (HF.out.below hb2 hfl);clear hb2 HV HB1 hfl
 go_wp2_with fail
 refine (HG.out).mono ?_;rintro e w3 ⟨rfl,hb3⟩;have HB3:=hJ (HB2.out.trans (hb3.mono HB2.out.size));replace HF:=hJ (HF.out.below hb3 HF.out.lt);have hfl3:=HF.out.lt;clear hb3 HG HB2;obtain ⟨b,off,rfl,hbw,_⟩:=H.out.form 0 (Nat.lt_succ_self 0);obtain ⟨W4,hW4⟩:∃ q,w3.alloc (.cells #[.slice none 0 0,.slice none 0 0,.int .i64 1] 268)=q:=⟨_,rfl⟩
 have hA4:Below w3.heap.size w3 W4:=by rw [← hW4];exact (zB _ _).alloc (zR _) _
 have HB4:=hJ (HB3.out.trans (hA4.mono HB3.out.size));have HS4:Hid (Bx W4 w3.heap.size 268 [.slice none 0 0,.slice none 0 0,.int .i64 1]):=hJ (by rw [← hW4];exact Bx.fresh w3 _ _);replace HF:=hJ (HF.out.below hA4 HF.out.lt);have hz34:w3.heap.size<W4.heap.size:=HS4.out.lt;have hz3:=HB3.out.size;obtain ⟨_,hr,⟨at_,ct,rfl,hts⟩,c0,c1⟩:=(H.out.below HB4.out).lin 0 (Nat.lt_succ_self 0);replace c0:W4.cell? ⟨b,off,none⟩=some (.int .i64 (-3)):=c0;replace c1:W4.cell? ⟨b,off+1,none⟩=some (.slice at_ 1 ct):=c1;have HT4:Hid (Sl kA7 (fun q=>q<w.heap.size) W4 at_ 1 ct [⟨nnS,1⟩]):=hJ hts;have hsbl:b<W4.heap.size:=kB5 c0;clear hr hts
 go_upto_block 0 with fail
 clear hW4 hA4
 go_cut [8] (fun v W=>v= .pointer (some ⟨w3.heap.size,0,none⟩)∧∃ g cg r rest,Hid (Bx W w3.heap.size 268 [.slice (some ⟨g,0,none⟩) 1 cg,.slice none 0 0,.int .i64 1])∧Hid (Bx W g 271 (.int .i64 (-3) :: .slice at_ 1 ct :: .map r :: .int .i64 1 :: .bool false :: rest))∧W4.heap.size≤g∧Hid (Kb w3.heap.size W4 W))
 case first =>
  go_wp2_with fail
  refine wp_loop_rounds 2 ?_;rw [rounds_succ]
  go_wp2_with fail
  obtain ⟨W5,hW5⟩:∃ q,W4.alloc (.cells #[.int .i64 (-3),.slice at_ 1 ct] 40)=q:=⟨_,rfl⟩
  have hA5:Below W4.heap.size W4 W5:=by rw [← hW5];exact (zB _ _).alloc (zR _) _
  have HA5:=hJ hA5;have HS5:=hJ (HS4.out.below hA5 HS4.out.lt);have HQ5:Hid (Bx W5 W4.heap.size 40 [.int .i64 (-3),.slice at_ 1 ct]):=hJ (by rw [← hW5];exact Bx.fresh W4 _ _);rw [hW5];have hz5:=HQ5.out.lt;have hs5:=HS5.out.lt;have s0:=HS5.out.cell 0 _ rfl;have s1:=HS5.out.fz 0;have q0:=HQ5.out.cell 0 _ rfl;have q1:=HQ5.out.cell 1 _ rfl;clear hW5 hA5 c0 c1;have hmm:= @run_makeMap Tryz.prog;obtain ⟨w6,hin,hsz6,hB6⟩:=insert_new W5 0 1;have HZ6:=hJ hsz6;have HB6:=hJ hB6;have HS6:=hJ (HS5.out.below HB6.out hs5);have HQ6:=hJ (HQ5.out.below HB6.out hz5);have y0:=HS6.out.cell 0 _ rfl;have y1:=HS6.out.fz 0;have p0:=HQ6.out.cell 0 _ rfl;have p1:=HQ6.out.cell 1 _ rfl;have hs6:=HS6.out.lt;have hz6:=HQ6.out.lt;clear hsz6 hB6
  have HFin:Hid (∀ (w7:World) (a7:Option Addr) (m7 c7:Nat),Own RRow 271 (fun _=>False) w7 w6.heap.size (.slice a7 m7 c7) [[.int .i64 (-3),.slice at_ 1 ct,.map (some W5.heap.size),.int .i64 1,.bool false]]→Below w6.heap.size w6 w7→∃ g cg r rest,Hid (Bx (w7.setCell ⟨w3.heap.size,0,none⟩ (.slice a7 m7 c7)) w3.heap.size 268 [.slice (some ⟨g,0,none⟩) 1 cg,.slice none 0 0,.int .i64 1])∧Hid (Bx (w7.setCell ⟨w3.heap.size,0,none⟩ (.slice a7 m7 c7)) g 271 (.int .i64 (-3) :: .slice at_ 1 ct :: .map r :: .int .i64 1 :: .bool false :: rest))∧W4.heap.size≤g∧Hid (Kb w3.heap.size W4 (w7.setCell ⟨w3.heap.size,0,none⟩ (.slice a7 m7 c7)))):=hJ (fun w7 a7 m7 c7 ho hB7=>by
   obtain ⟨g,rest,rfl,rfl,hg,hb⟩:=row_own ho;have hz:=HZ6.out;refine ⟨g,c7,some W5.heap.size,rest,hJ ((HS6.out.below hB7 hs6).set 0 _),hJ (Bx.other hb (by show w3.heap.size≠g;omega)),by omega,hJ (Kb.set ((Kb.refl _ W4).later ((HA5.out.trans (HB6.out.mono HA5.out.size)).trans (hB7.mono (by have:=HA5.out.size;omega)))) 0 _)⟩)
  go_region_law (first
   | (refine kEW elemRow rfl (.tmp 55) (.tmp 61) rfl w6.heap.size (.slice none 0 0) [] rfl (Own.nil RRow _ (fun _=>False) _ _) w6.heap.size [.int .i64 (-3),.slice at_ 1 ct,.map (some W5.heap.size),.int .i64 1,.bool false] [.int .i64 (-3),.slice at_ 1 ct,.map (some W5.heap.size),.int .i64 1,.bool false] rfl ?ry ?rc ?rl ?rm ?rb ?_
      case ry=>first | exact ⟨rfl,rfl,by simp [Value.oneCell']⟩
      case rc=>first | exact kA3 271 (by (simp only [kAJ,kAF,Array.getElem?_push,Array.size_push];simp))
      case rl=>first | (simp;done)
      case rm=>first | (unfold maxLen;simp;done)
      case rb=>first | (simp;done)
      intro v7 w7 hown7 hb7 hk7;have hB7:Below w6.heap.size w6 w7:=Below.trans (by go_grown) hb7;obtain ⟨a7,m7,c7,rfl⟩:=hown7.shape;have HX7:=HS6.out.below hB7 hs6;have z0:=HX7.cell 0 _ rfl;have z1:=HX7.fz 0))
  all_goals
   have hown7:Own RRow 271 (fun _=>False) w7 w6.heap.size (.slice a7 m7 c7) [[.int .i64 (-3),.slice at_ 1 ct,.map (some W5.heap.size),.int .i64 1,.bool false]]:=hown7;have HR:=hJ (HFin.out w7 a7 m7 c7 hown7 hB7);clear hown7 hB7 hb7 hk7 HX7 z0 z1
   go_wp2_with fail
   rw [rounds_succ]
   go_wp2_with fail
   go_meet
   exact ⟨rfl,HR.out⟩
 case rest =>
  obtain ⟨rfl,g,cg,r,rest,HS,HX,hg,HK⟩:=hcut;have hsg:w3.heap.size≠g:=by omega
  have HBc:Hid (Below w.heap.size w wc):=hJ (HB4.out.trans (HK.out.below hz3 HB4.out.size));have HTc:Hid (Sl kA7 (fun q=>q<w.heap.size) wc at_ 1 ct [⟨nnS,1⟩]):=hJ (HT4.out.frame fun q hq hlt=>HK.out.block q hlt (by have hq:q<w.heap.size:=hq;omega));have HFc:=hJ (HF.out.kb HK.out (by omega));have hsl:=HS.out.lt;have hgl:=HX.out.lt;have s0:=HS.out.cell 0 _ rfl;have x0:=HX.out.cell 0 _ rfl;have x1:=HX.out.cell 1 _ rfl;have hrd:RLin.rd (fun q=>q<w.heap.size) wc [.int .i64 (-3),.slice at_ 1 ct] qL:=⟨_,rfl,at_,ct,rfl,HTc.out⟩
  have HZ:=hJ (eqn_zero hrd);rw [show (decide (qL.terms.length=0) && decide (qL.const=0))=false from by decide] at HZ;clear c0 c1 HS4 HT4 HK HF hrd
  go_wp2_with fail
  refine wp_loop_rounds 2 ?_;rw [rounds_succ]
  go_wp2_with fail
  refine wp_loop_rounds 2 ?_;rw [rounds_succ]
  go_wp2_with fail
  refine (HZ.out).mono ?_;rintro e w6 ⟨rfl,hb6⟩;have HB6:=hJ (HBc.out.trans (hb6.mono HBc.out.size));have HS6:=hJ (HS.out.below hb6 hsl);have HX6:=hJ (HX.out.below hb6 hgl);have HF6:=hJ (HFc.out.below hb6 HFc.out.lt);have hfw6:=HF6.out.lt;have hST:=hJ (eqn_step HS6.out HX6.out ((HTc.out.below hb6).mono (fun q hq _=>by have hq:q<w.heap.size:=hq;omega)) hsg (by omega) (HE.out _ HB6.out));clear hb6 HZ HTc HS HX HFc HBc s0 x0 x1
  go_wp2_with fail
  refine hST.out.mono ?_;rintro e w7 ⟨rfl,a',c',a2,c2,hx,hs,hbn,hk⟩;have HS7:=hJ hs;have HX7:=hJ hx;have HN7:=hJ hbn;have hwf:w.heap.size≠w3.heap.size:=by omega
  have hwg:w.heap.size≠g:=by omega
  have HF7:Hid (Bx w7 w.heap.size _ _):=hJ (hk.bx HF6.out hwf hwg);have HB7:Hid (Below w.heap.size w w7):=hJ (HB6.out.trans (hk.below hz3 (by omega) HB6.out.size));have hz67:=hk.size;clear hx hs hbn hk hST HS6 HX6 HF6
  go_upto_if 91 with fail
  obtain ⟨W8,hW8⟩:∃ q,w7.alloc (.cells #[.slice none 0 0,.int .i64 0] 192)=q:=⟨_,rfl⟩
  have hA8:Below w7.heap.size w7 W8:=by rw [← hW8];exact (zB _ _).alloc (zR _) _
  rw [hW8];clear hW8;have HS8:=hJ (HS7.out.below hA8 HS7.out.lt);have HX8:=hJ (HX7.out.below hA8 HX7.out.lt);have HF8:=hJ (HF7.out.below hA8 HF7.out.lt);have HN8:=hJ (HN7.out.below hA8);have HB8:=hJ (HB7.out.trans (hA8.mono HB7.out.size));have hz68:w6.heap.size≤W8.heap.size:=by have:=hA8.size;omega
  have s0:=HS8.out.cell 0 _ rfl;have x0:=HX8.out.cell 0 _ rfl;have x1:=HX8.out.cell 1 _ rfl;have HZ:=hJ (eqn_zero0 a' c' W8);clear hA8 HS7 HX7 HF7 HN7 HB7
  go_wp2_with fail
  rw [rounds_succ]
  go_wp2_with fail
  refine (HZ.out).mono ?_;rintro e w9 ⟨rfl,hb9⟩;have HS9:=hJ (HS8.out.below hb9 HS8.out.lt);have HF9:=hJ (HF8.out.below hb9 HF8.out.lt);have HN9:=hJ (HN8.out.below hb9);have HB9:=hJ (HB8.out.trans (hb9.mono HB8.out.size));have hz69:w6.heap.size≤w9.heap.size:=by have:=hb9.size;omega
  clear hb9 HZ HS8 HX8 HF8 HN8 HB8 s0 x0 x1;have s0:=HS9.out.cell 0 _ rfl;have s1:=HS9.out.cell 1 _ rfl;have s2:=HS9.out.cell 2 _ rfl;have HVr:=hJ (kEB [qL] _ 1 c w9 (H.out.below HB9.out) qL_sz (by decide) (by rw [qL_vars];decide))
  go_wp2_with fail
  rw [rounds_succ]
  go_wp2_with fail
  refine HVr.out.mono ?_;rintro e w10 ⟨⟨ov,m,rfl,hown,hm⟩,hb10⟩;rw [qL_vars] at hm;rw [vars_one hm] at hown;obtain ⟨ao,co,rfl,hos⟩:=hown.sl;have HO10:Hid (Sl RStr (fun k=>False∨w9.heap.size≤k) w10 ao 1 co [nnS]):=hJ hos;have HS10:=hJ (HS9.out.below hb10 HS9.out.lt);have HF10:=hJ (HF9.out.below hb10 HF9.out.lt);have HN10:=hJ (HN9.out.below hb10);have HB10:=hJ (HB9.out.trans (hb10.mono HB9.out.size));have hz610:w6.heap.size≤w10.heap.size:=by have:=hb10.size;omega
  clear hown hos hm hb10 HVr HS9 HF9 HN9 HB9 s0 s1 s2;have s1:=HS10.out.cell 1 _ rfl;have s2:=HS10.out.cell 2 _ rfl;obtain ⟨bb,boff,rfl,hbb,_⟩:=HN10.out.form 0 (Nat.lt_succ_self 0);obtain ⟨_,_,hr,⟨⟨ta,tc,rfl,_⟩,⟨da,dc,rfl,_⟩⟩,e0,e1,e2,e3,e4,e5,e6⟩:=HN10.out.bnd 0 (Nat.lt_succ_self 0);replace e0:w10.cell? ⟨bb,boff,none⟩=some (.int .i64 1):=e0;replace e1:w10.cell? ⟨bb,boff+1,none⟩=some (.string nnS):=e1;replace e2:w10.cell? ⟨bb,boff+2,none⟩=some (.int .i64 3):=e2;replace e3:w10.cell? ⟨bb,boff+3,none⟩=some (.slice ta 0 tc):=e3;replace e4:w10.cell? ⟨bb,boff+4,none⟩=some (.string ⟨#[]⟩):=e4;replace e5:w10.cell? ⟨bb,boff+5,none⟩=some (.slice da 0 dc):=e5;replace e6:w10.cell? ⟨bb,boff+6,none⟩=some (.string ⟨#[]⟩):=e6;have HRd:Hid (RBnd.rd (fun q=>w6.heap.size≤q) w10 [.int .i64 1,.string nnS,.int .i64 3,.slice ta 0 tc,.string ⟨#[]⟩,.slice da 0 dc,.string ⟨#[]⟩] bd3):=hJ hr;clear hr
  go_wp2_with fail
  refine wp_loop_rounds 2 ?_;rw [rounds_succ];have HSr:=hJ (search_one (w:=w10.alloc (.cells #[.int .i64 1,.string nnS,.int .i64 3,.slice ta 0 tc,.string ⟨#[]⟩,.slice da 0 dc,.string ⟨#[]⟩] 42)) (HO10.out.below ((zB _ _).alloc (zR _) _)))
  go_wp2_with fail
  refine HSr.out.mono ?_;rintro e _ ⟨rfl,rfl⟩;have hA11:Below w10.heap.size w10 (w10.alloc (.cells #[.int .i64 1,.string nnS,.int .i64 3,.slice ta 0 tc,.string ⟨#[]⟩,.slice da 0 dc,.string ⟨#[]⟩] 42)):=(zB _ _).alloc (zR _) _;have HU11:=hJ (Bx.fresh w10 42 [.int .i64 1,.string nnS,.int .i64 3,.slice ta 0 tc,.string ⟨#[]⟩,.slice da 0 dc,.string ⟨#[]⟩]);have HS11:=hJ (HS10.out.below hA11 HS10.out.lt);have HF11:=hJ (HF10.out.below hA11 HF10.out.lt);have HR11:=hJ (RBnd.below HRd.out hA11);have HB11:=hJ (HB10.out.trans (hA11.mono HB10.out.size));have hz11:=hA11.size;generalize (w10.alloc (.cells #[.int .i64 1,.string nnS,.int .i64 3,.slice ta 0 tc,.string ⟨#[]⟩,.slice da 0 dc,.string ⟨#[]⟩] 42))=w11 at *;have u0:=HU11.out.cell 0 _ rfl;have u1:=HU11.out.cell 1 _ rfl;have u2:=HU11.out.cell 2 _ rfl;have u3:=HU11.out.cell 3 _ rfl;have u4:=HU11.out.cell 4 _ rfl;have u5:=HU11.out.cell 5 _ rfl;have u6:=HU11.out.cell 6 _ rfl;clear hA11 HSr e0 e1 e2 e3 e4 e5 e6 s1 s2 HS10 HF10 HN10 HB10 HRd HO10
  go_wp2_with (at_builtin;refine kA1 kCS rfl _ _ rfl w11.heap.size _ _ rfl ((Own.nil RBnd 42 (fun q=>w6.heap.size≤q∧q<w11.heap.size) w11 w11.heap.size).alloc _) _ bd3 [.int .i64 1,.string nnS,.int .i64 3,.slice ta 0 tc,.string ⟨#[]⟩,.slice da 0 dc,.string ⟨#[]⟩] rfl (RBnd.below (RBnd.mono HR11.out (fun q hq hlt=>⟨⟨hq,hlt⟩,fun e=>absurd (show (none:Option Nat)=some q from e) (by simp)⟩)) ((zB _ _).alloc (zR _) _)) (kA3 42 (by (simp only [kAJ,kAF,Array.getElem?_push,Array.size_push];simp))) (by simp) (by unfold maxLen;simp) (by simp) ?_;intro v12 w12 hown12 hb12 hk12)
  have hown12:Own RBnd 42 (fun q=>w6.heap.size≤q∧q<w11.heap.size) w12 w11.heap.size v12 [bd3]:=hown12;have hB12:Below w11.heap.size w11 w12:=Below.trans ((zB _ _).alloc (zR _) _) hb12;obtain ⟨a12,c12,rfl,hs12⟩:=hown12.sl;have HO12:=hJ hown12;have HS12:=hJ (HS11.out.below hB12 HS11.out.lt);have HF12:=hJ (HF11.out.below hB12 HF11.out.lt);have HB12:=hJ (HB11.out.trans (hB12.mono HB11.out.size));have hz12:=hB12.size;have HSo:=hJ (sortFunc_Bnd hown12 hz12 (by decide) 243 (kBJ func243 rfl rfl) cmpV preV (fun S' T' W x y cs ds h1 h2=>solve_cmp h1 h2));have hzw11:=HB11.out.size;have hs11:=HS11.out.lt;have hf11:=HF11.out.lt;clear hown12 hs12 hb12 hk12 hB12 HU11 HS11 HF11 HR11 HB11 u0 u1 u2 u3 u4 u5 u6
  go_wp2_with fail
  rw [rounds_succ]
  go_wp2_with fail
  refine HSo.out.mono ?_;rintro e w13 ⟨⟨rfl,m13,hperm,_,hown13,_⟩,hb13⟩;obtain rfl:=List.perm_singleton.1 hperm;obtain ⟨a13,c13,e13,hs13⟩:=hown13.sl;rw [Value.slice.injEq] at e13;obtain ⟨rfl,_,rfl⟩:=e13;have HS13:=hJ (HS12.out.below hb13 (by omega));have HF13:=hJ (HF12.out.below hb13 (by omega));have HB13:=hJ (HB12.out.trans (hb13.mono hzw11));have HN13:Hid (Sl RBnd (fun k=>(w6.heap.size≤k∧k<w11.heap.size)∨w11.heap.size≤k) w13 a12 1 c12 [bd3]):=hJ hs13;have s2:=HS13.out.cell 2 _ rfl;have r0:=HF13.out.cell 0 _ rfl;have r1:=HF13.out.cell 1 _ rfl;have r2:=HF13.out.fz 0;have r3:=HF13.out.fz 1;have HF14:=hJ ((HF13.out.set 0 (.slice none 0 0)).set 1 (.int .i64 0));have q0:=HF14.out.cell 0 _ rfl;have q1:=HF14.out.cell 1 _ rfl;have hfl13:=HF13.out.lt;have hzz6:=HB6.out.size;clear hb13 hperm hown13 hs13 HSo HS12 HF12 HB12 HO12 HS13
  go_wp2_with fail
  go_region
  go_wp2_with fail
  refine bodyPost_ret (v:=.tuple #[.slice a12 1 c12,.int .i64 1,.agg #[.slice none 0 0,.int .i64 0],.int .i64 0]) (by simp [results,results175,go_sem,q0,q1]) rfl ?_;refine ⟨⟨a12,c12,rfl,(HN13.out.frame fun q hq _=>?_).mono (fun q hq _=>?_)⟩,((HB13.out.setCell (zR _) _).setCell (zR _) _).drew⟩
  · have hne:w.heap.size≠q:=by rcases hq with hq | hq <;> omega
    exact (kAA (by show w.heap.size≠q;exact hne)).trans (kAA (by show w.heap.size≠q;exact hne))
  · rcases hq with hq | hq <;> omega
theorem Kp.kl {v v':Value} {w w':World} (h:Kp v v' w w'):Kl v v' w w' :=
 ⟨h.block,fun q hq=>h.own.elim (fun e=>.inl (by rw [← e];exact hq)) (fun e=>.inr (by rw [e] at hq;cases hq;exact zR _))⟩
def Apart (T:Blk) (w:World) (v:Value):Prop:=∀ q,T q→q<w.heap.size∧v.ownBlock≠some q
theorem Apart.kl {T:Blk} {w w':World} {v v':Value} (h:Apart T w v) (k:Kl v v' w w') (hs:w.heap.size≤w'.heap.size):Apart T w' v':=fun q hq=>⟨by have:=(h q hq).1;omega,fun e=>(k.own q e).elim (h q hq).2 (fun r=>by have:=(h q hq).1;omega)⟩
theorem Sl.kl {α :Type} {R:Rep α} {T:Blk} {w w':World} {a:Option Addr} {n c:Nat} {l:List α} {v v':Value} (h:Sl R T w a n c l) (ha:Apart T w v) (k:Kl v v' w w'):Sl R T w' a n c l:=h.frame fun q hq hlt=>k.block q hlt (ha q hq).2
theorem Apart.below {T:Blk} {w w':World} {v:Value} (h:Apart T w v) (hs:w.heap.size≤w'.heap.size):Apart T w' v:=fun q hq=>⟨by have:=(h q hq).1;omega,(h q hq).2⟩
theorem Own.slAt {α :Type} {R:Rep α} {E:TypeId} {S:Blk} {w:World} {base:Nat} {v:Value} {l:List α} (h:Own R E S w base v l):∃ a c,v= .slice a l.length c∧Sl R (fun k=>S k∨At a k) w a l.length c l∧∀ q,At a q→base≤q∧q<w.heap.size:=by
 have hblk:=fun {k}=> @Own.block _ _ _ _ _ _ _ _ h k
 obtain ⟨css,hl,hrow,hel⟩:=h.row;obtain ⟨a,c,rfl,h1,h2,h3,h4⟩:=kC0 hrow;refine ⟨a,c,rfl,⟨rfl,h1,h2,h3,fun i x hx=>?_⟩,fun q hq=>?_⟩
 · obtain ⟨cs,hcs,hr⟩:=hel i x hx
   obtain ⟨_,⟨hv,h0⟩ | ⟨g,cap,cur,hv,hg,hh,hn,hm,hs,ht⟩⟩:=hrow
   · obtain rfl:l=[]:=zL h0
     simp at hx
   · rw [Value.slice.injEq] at hv
     obtain ⟨rfl,-,rfl⟩:=hv;refine ⟨g,0,cs,rfl,.inr ⟨_,rfl,rfl⟩,R.mono hr (fun k hk _=>.inl hk.1),fun j u hu=>?_⟩
     have hall:∀ cs ∈ css,cs.length=R.size:=fun cs' hm'=>by
      obtain ⟨i',hi',rfl⟩:=List.getElem_of_mem hm';obtain ⟨cs2,e2,r2⟩:=hel i' (l[i']'(by omega)) (zG (by omega));rw [zG hi'] at e2;cases e2;exact R.len r2
     have hu2:=kFS hall i cs j u hcs hu
     have hlt:i * R.size+j<l.length * R.size:=by
      have hfl:css.flatten.length=l.length * R.size:=by
       have hcl:cur.toList.length=c * R.size:=by rw [← hs];simp
       have:l.length * R.size≤c * R.size:=Nat.mul_le_mul_right _ h1;rw [← ht,zN,hcl];omega
      rw [← hfl];rcases zF (i * R.size+j) css.flatten.length with q | q
      · exact q
      · rw [List.getElem?_eq_none q] at hu2;cases hu2
     rw [Nat.zero_add]
     have:cur.toList[i * R.size+j]? =some u:=by
      rw [← ht,List.getElem?_take,if_pos hlt] at hu2;exact hu2
     simp [World.cell?,hh];rw [← Array.getElem?_toList];exact this
 · obtain ⟨b,rfl,rfl⟩:=hq
   exact hblk (by rfl)
theorem Own.self {α :Type} {R:Rep α} {E:TypeId} {w:World} {base:Nat} {v:Value} {l:List α} (h:Own R E (fun _=>False) w base v l):∃ a c,v= .slice a l.length c∧Sl R (At a) w a l.length c l∧∀ q,At a q→base≤q∧q<w.heap.size:=by
 obtain ⟨a,c,e,hs,hq⟩:=h.slAt;exact ⟨a,c,e,hs.mono (fun q r _=>r.elim False.elim id),hq⟩
def Bare (l:List Bnd):Prop:=∀ x ∈ l,x=bare x.kind x.v
theorem InvV.bare {l:List Bnd} (h:InvV l):Bare l:=fun x hx=>(h.good x hx).1
theorem bare_rd {S S':Blk} {w w':World} {cs:List Value} {x:Bnd} (h:RBnd.rd S w cs x) (hb:x=bare x.kind x.v):RBnd.rd S' w' cs x:=by
 obtain ⟨t,d,rfl,⟨a,c,rfl,h1⟩,⟨a2,c2,rfl,h2⟩⟩:=h;have e1:x.dim.terms=[]:=by rw [hb];rfl
 have e2:x.row.dims=[]:=by rw [hb];rfl
 refine ⟨_,_,rfl,⟨a,c,rfl,⟨h1.len,h1.cap,h1.max,h1.nil,fun i y hy=>?_⟩⟩,⟨a2,c2,rfl,⟨h2.len,h2.cap,h2.max,h2.nil,fun i y hy=>?_⟩⟩⟩
 · rw [e1] at hy;simp at hy
 · rw [e2] at hy;simp at hy
theorem addBs_next {l0 m:List Bnd} {j:Nat} (h:j<m.length):addBs l0 (m.take (j+1))=addV (addBs l0 (m.take j)) (m.getD j default).kind (m.getD j default).v:=by
 unfold addBs;rw [kAU h,List.foldl_append];rfl
theorem varsAll_next {l:List Typ} {k:Nat} (h:k<l.length):kBE (l.take (k+1))=addBs (kBE (l.take k)) (kBN (l.getD k default)):=by
 unfold kBE;rw [kAU h,List.foldl_append];rfl
def kA4 (n:Int):Str:=⟨(Lib.itoa n).toArray⟩
def cutS (s:Str):Str:=⟨(Lib.trimSuffix s.data.toList [49]).toArray⟩
def oneB (n:Int) (s:Str):Bool:= !s.toList.isEmpty && (n==1 || n== -1)
def digS (n:Int) (s:Str):Str:=if oneB n s then cutS (kA4 n) else kA4 n
def kHV (out:Str) (n:Int):Bool:=decide (0≤n) && !out.toList.isEmpty
def kIC (out:Str) (n:Int):Str:=if kHV out n then out++⟨#[43]⟩ else out
def kDX (out:Str) (n:Int) (s:Str):Str:=kIC out n++(digS n s++s)
def sumS (l:List Coef):Str:=l.foldl (fun o t=>kDX o t.c t.v) ⟨#[]⟩
def endB (o:Str) (c:Int):Bool:=(c != 0) || o.toList.isEmpty
def endS (o:Str) (c:Int):Str:=if endB o c then kDX o c ⟨#[]⟩ else o
def kAS (l:Lin):Str:=if kAB l then endS (sumS l.terms) l.const else ⟨#[]⟩
theorem sumS_next {l:List Coef} {k:Nat} (hk:k<l.length):sumS (l.take (k+1))=kDX (sumS (l.take k)) (l.getD k default).c (l.getD k default).v:=by
 unfold sumS;rw [kAU hk,List.foldl_append];rfl
theorem trim_one (s:Str) (w:World) (hs:s.size≤1000):Calls Tryz.prog 108 #[.string s,.string ⟨#[49]⟩] w fun e w'=>e= .returned (.string (cutS s))∧w=w' :=
 (Tryz.strings_TrimSuffix s ⟨#[49]⟩ w (by omega)).mono fun e w' ⟨h1,h2⟩=>⟨h1,h2.symm⟩
theorem cutS_size (s:Str):(cutS s).size≤s.size:=by
 unfold cutS Lib.trimSuffix
 show (if _ then _ else _:List UInt8).toArray.size≤_
 split
 · rw [List.size_toArray,zN];exact Nat.min_le_right _ _
 · exact zR _
theorem itoaS_size (n:Int) (h0: -9223372036854775808≤n) (h1:n≤9223372036854775807):(kA4 n).size≤21:=by
 have:=Lib.itoa_length_le n h0 h1;unfold kA4
 show (Lib.itoa n).toArray.size≤21
 simpa using this
theorem kHW (n:Int) (h0: -1000000≤n) (h1:n≤1000000) (s:Str) (p:Nat) (out:Str) (w:World) (hb:Bx w p 9 [.string out]) (hos:out.size≤1000000) (hss:s.size≤1000000) (E:Env w) :
 Calls Tryz.prog 107 #[.int .i64 n,.string s,.pointer (some ⟨p,0,none⟩)] w fun e w'=>e= .returned (.tuple #[])∧Bx w' p 9 [.string (kDX out n s)]∧Kb p w w':=by
 have HI:=hJ (kHP n (by omega) (by omega) w E);have HB:=hJ hb;have hsz:=itoaS_size n (by omega) (by omega);have hcz:(cutS (kA4 n)).size≤21:=zE (cutS_size _) hsz;have hpz:(out++(⟨#[43]⟩:Str)).size≤1000001:=by rw [zS];show out.size+1≤_;omega
 have HP:Hid (kDX out n s=kIC out n++(digS n s++s)):=hJ rfl
 change Hid (Calls _ _ _ _ fun e w'=>e= .returned (.string (kA4 n))∧_) at HI
 have HD1:Hid (oneB n s=true→digS n s=cutS (kA4 n)):=hJ (fun q=>by unfold digS;rw [if_pos q]);have HD0:Hid (oneB n s=false→digS n s=kA4 n):=hJ (fun q=>by unfold digS;rw [if_neg (by rw [q];decide)]);have HQ1:Hid (kHV out n=true→kIC out n=out++⟨#[43]⟩):=hJ (fun q=>by unfold kIC;rw [if_pos q]);have HQ0:Hid (kHV out n=false→kIC out n=out):=hJ (fun q=>by unfold kIC;rw [if_neg (by rw [q];decide)]);clear hb E;generalize kA4 n=d at *;go_enter func107,ntmps107
 go_wp2_with fail
 refine HI.out.mono ?_;rintro e w1 ⟨rfl,hb1⟩;have HB1:=hJ (HB.out.below hb1 HB.out.lt);have HK1:Hid (Kb p w w1):=hJ ((Kb.refl p w).later hb1);have y0:=HB1.out.cell 0 _ rfl;have f0:=HB1.out.fz 0;clear hb1;cases hs:s.toList.isEmpty with
 | true =>
   have HD:Hid (digS n s=d):=hJ (HD0.out (by unfold oneB;rw [hs];rfl));by_cases hn0:0≤n
   · cases ho:out.toList.isEmpty with
     | true =>
       have HF:Hid (kDX out n s=out++(d++s)):=hJ (by rw [HP.out,HQ0.out (by unfold kHV;rw [ho];simp),HD.out]);have hsum:(d++s).size≤1000021:=by rw [zS];omega
       go_wp2_with fail
       go_end0;exact ⟨rfl,by rw [HF.out];exact HB1.out.set 0 _,HK1.out.set _ _⟩
     | false =>
       have HF:Hid (kDX out n s=(out++⟨#[43]⟩)++(d++s)):=hJ (by rw [HP.out,HQ1.out (by unfold kHV;rw [ho,decide_eq_true (by omega)];rfl),HD.out]);have HB2:=hJ (HB1.out.set 0 (.string (out++⟨#[43]⟩)));have y2:=HB2.out.cell 0 _ rfl;have f2:=HB2.out.fz 0;have hsum:(d++s).size≤1000021:=by rw [zS];omega
       go_wp2_with fail
       go_end0;exact ⟨rfl,by rw [HF.out];exact HB2.out.set 0 _,(HK1.out.set _ _).set _ _⟩
   · have HF:Hid (kDX out n s=out++(d++s)):=hJ (by rw [HP.out,HQ0.out (by unfold kHV;rw [decide_eq_false (by omega)];rfl),HD.out])
     have hsum:(d++s).size≤1000021:=by rw [zS];omega
     go_wp2_with fail
     go_end0;exact ⟨rfl,by rw [HF.out];exact HB1.out.set 0 _,HK1.out.set _ _⟩
 | false =>
   by_cases hn1:n=1
   · subst hn1
     have HD:Hid (digS 1 s=cutS d):=hJ (HD1.out (by unfold oneB;rw [hs];rfl))
     go_wp2_with fail
     refine (trim_one d _ (by omega)).mono ?_;rintro e _ ⟨rfl,rfl⟩;generalize cutS d=dd at *;cases ho:out.toList.isEmpty with
     | true =>
       have HF:Hid (kDX out 1 s=out++(dd++s)):=hJ (by rw [HP.out,HQ0.out (by unfold kHV;rw [ho];simp),HD.out]);have hsum:(dd++s).size≤1000021:=by rw [zS];omega
       go_wp2_with fail
       go_end0;exact ⟨rfl,by rw [HF.out];exact HB1.out.set 0 _,HK1.out.set _ _⟩
     | false =>
       have HF:Hid (kDX out 1 s=(out++⟨#[43]⟩)++(dd++s)):=hJ (by rw [HP.out,HQ1.out (by unfold kHV;rw [ho,decide_eq_true (by omega)];rfl),HD.out]);have HB2:=hJ (HB1.out.set 0 (.string (out++⟨#[43]⟩)));have y2:=HB2.out.cell 0 _ rfl;have f2:=HB2.out.fz 0;have hsum:(dd++s).size≤1000021:=by rw [zS];omega
       go_wp2_with fail
       go_end0;exact ⟨rfl,by rw [HF.out];exact HB2.out.set 0 _,(HK1.out.set _ _).set _ _⟩
   · by_cases hn2:n= -1
     · subst hn2
       have HD:Hid (digS (-1) s=cutS d):=hJ (HD1.out (by unfold oneB;rw [hs];rfl))
       go_wp2_with fail
       refine (trim_one d _ (by omega)).mono ?_;rintro e _ ⟨rfl,rfl⟩;generalize cutS d=dd at *;have HF:Hid (kDX out (-1) s=out++(dd++s)):=hJ (by rw [HP.out,HQ0.out (by unfold kHV;rw [decide_eq_false (by omega)];rfl),HD.out]);have hsum:(dd++s).size≤1000021:=by rw [zS];omega
       go_wp2_with fail
       go_end0;exact ⟨rfl,by rw [HF.out];exact HB1.out.set 0 _,HK1.out.set _ _⟩
     · have hq1:(n==1)=false:=beq_eq_false_iff_ne.2 hn1
       have hq2:(n== -1)=false:=beq_eq_false_iff_ne.2 hn2;have HD:Hid (digS n s=d):=hJ (HD0.out (by unfold oneB;rw [hs,hq1,hq2];rfl));by_cases hn0:0≤n
       · cases ho:out.toList.isEmpty with
         | true =>
           have HF:Hid (kDX out n s=out++(d++s)):=hJ (by rw [HP.out,HQ0.out (by unfold kHV;rw [ho];simp),HD.out]);have hsum:(d++s).size≤1000021:=by rw [zS];omega
           go_wp2_with fail
           go_end0;exact ⟨rfl,by rw [HF.out];exact HB1.out.set 0 _,HK1.out.set _ _⟩
         | false =>
           have HF:Hid (kDX out n s=(out++⟨#[43]⟩)++(d++s)):=hJ (by rw [HP.out,HQ1.out (by unfold kHV;rw [ho,decide_eq_true (by omega)];rfl),HD.out]);have HB2:=hJ (HB1.out.set 0 (.string (out++⟨#[43]⟩)));have y2:=HB2.out.cell 0 _ rfl;have f2:=HB2.out.fz 0;have hsum:(d++s).size≤1000021:=by rw [zS];omega
           go_wp2_with fail
           go_end0;exact ⟨rfl,by rw [HF.out];exact HB2.out.set 0 _,(HK1.out.set _ _).set _ _⟩
       · have HF:Hid (kDX out n s=out++(d++s)):=hJ (by rw [HP.out,HQ0.out (by unfold kHV;rw [decide_eq_false (by omega)];rfl),HD.out])
         have hsum:(d++s).size≤1000021:=by rw [zS];omega
         go_wp2_with fail
         go_end0;exact ⟨rfl,by rw [HF.out];exact HB1.out.set 0 _,HK1.out.set _ _⟩
theorem partS_size {out:Str} {n:Int} {s:Str} (h0: -1000000≤n) (h1:n≤1000000):(kDX out n s).size≤out.size+22+s.size:=by
 have q1:=itoaS_size n (by omega) (by omega);have q2:=cutS_size (kA4 n);have q3:(digS n s).size≤21:=by unfold digS;split <;> omega
 have q4:(kIC out n).size≤out.size+1:=by
  unfold kIC
  split
  · rw [zS];exact zR _
  · omega
 unfold kDX;rw [zS,zS];omega
theorem kIO {l:List Coef} (hb:Bd 1000000 l) (hn:∀ t ∈ l,kAZ t.v=true):∀ k,k≤l.length→(sumS (l.take k)).size≤k * 100
 | 0,_=>Nat.zero_le _
 | k+1,hk=>by
   have ih:=kIO hb hn k (by omega);have hm:=kAM (l:=l) (k:=k) (by omega);have q1:=kC7 (hn _ hm);have q2:=hb _ hm;rw [sumS_next (by omega)];have:=partS_size (out:=sumS (l.take k)) (s:=(l.getD k default).v) q2.1 q2.2;omega
theorem kIA (x:Lin):(kAS x).size≤2000:=by
 unfold kAS
 split
 · rename_i h
   obtain ⟨_,_,hb,hn,hc,hl⟩:=kAV h;have q:=kIO hb hn x.terms.length (zR _);rw [List.take_length] at q;unfold endS
   split
   · have:=partS_size (out:=sumS x.terms) (s:=⟨#[]⟩) hc.1 hc.2
     have e:(⟨#[]⟩:Str).size=0:=rfl;omega
   · omega
 · exact Nat.zero_le _
theorem kG2 {S:Blk} {x:Lin} {cs:List Value} {w:World} (h:RLin.rd S w cs x) (hz:szL x) (E:Env w) :
 Calls Tryz.prog 50 #[.agg cs.toArray] w fun e w'=>e= .returned (.string (kAS x))∧Below w.heap.size w w':=by
 have HV:Hid (∀ W,Below w.heap.size w W→Calls Tryz.prog 66 #[.agg cs.toArray] W fun e w'=>e= .returned (.bool (kAB x))∧Below W.heap.size W w'):=hJ (fun W hW=>kBX (RLin.below h hW) hz (E.below hW));have HE:=hJ (fun (W:World) (hW:Below w.heap.size w W)=>E.below hW);obtain ⟨t,rfl,a,c,rfl,hs⟩:=h;have hm:=hs.small;have HLn:=hJ hs.len;have HS0:=hJ hs;clear hs E hz;generalize hl1:x.terms.length=n at *;have HL:=hJ hl1;clear hl1;obtain ⟨B0,ya,hW0⟩:=box1 w 40 [.int .i64 x.const,.slice a n c];have xa0:=box0 ya 0 _ rfl;have xa1:=box0 ya 1 _ rfl;clear ya;have HC:=hJ (HV.out _ B0.out);cases hv:kAB x with
 | false =>
   have HF:Hid (kAS x=⟨#[]⟩):=hJ (by unfold kAS;rw [hv];rfl);rw [hv] at HC;go_enter func50,ntmps50
   go_wp2_with fail
   refine (HC.out).mono ?_;rintro e w1 ⟨rfl,hb⟩
   go_wp2_with fail
   go_ret;exact ⟨by rw [HF.out];rfl,B0.out.trans (hb.mono B0.out.size)⟩
 | true =>
   have HF:Hid (kAS x=endS (sumS x.terms) x.const):=hJ (by unfold kAS;rw [hv];rfl);have HVp:=hJ (kAV hv);rw [hv] at HC;clear HV hv;go_enter func50,ntmps50
   go_wp2_with fail
   refine HC.out.mono ?_;rintro e w1 ⟨rfl,hb⟩;have HW1:Hid (Below w.heap.size w w1):=hJ (B0.out.trans (hb.mono B0.out.size));have HS:=hJ (HS0.out.below HW1.out);have g0:=kAE xa0 _ hb;have g1:=kAE xa1 _ hb;have hlw:w.heap.size<w1.heap.size:=kB5 g1;clear xa0 xa1 hb HC HS0 B0 hW0
   go_wp2_with fail
   go_loopw [14] (fun i wr=>∃ k:Nat,k≤n∧i= .int .i64 k∧Hid (Bx wr w1.heap.size 9 [.string (sumS (x.terms.take k))])∧Below w1.heap.size w1 wr) (fun i _=>n - (intOf i).toNat)
   case atStart=>exact ⟨0,Nat.zero_le _,rfl,hJ (Bx.fresh w1 9 [.string ⟨#[]⟩]),(zB _ _).alloc (zR _) _⟩
   case round =>
    obtain ⟨k,hk,rfl,HX,hB⟩:=hrel;have r0:=kAE g0 _ hB;have r1:=kAE g1 _ hB;have HEr:=hJ (fun (W:World) (hW:Below wr.heap.size wr W)=>HE.out W (HW1.out.trans ((hB.trans (hW.mono hB.size)).mono HW1.out.size)));have y0:=HX.out.cell 0 _ rfl;have hlp:=HX.out.lt;by_cases hlt:k<n
    · obtain ⟨b,off,rfl,hbW,_⟩:=HS.out.form k hlt
      obtain ⟨c0,c1⟩:=(HS.out.below hB).coef k hlt;have hkl:k<x.terms.length:=by rw [HL.out];exact hlt
      have HNx:=hJ (sumS_next (l:=x.terms) hkl);have hbd:=HVp.out.2.2.1 _ (kAM hkl);have hnz:=kC7 (HVp.out.2.2.2.1 _ (kAM hkl));have hsz:=kIO HVp.out.2.2.1 HVp.out.2.2.2.1 k (by omega);have hl12:=HVp.out.2.2.2.2.2;generalize x.terms.getD k default=y at *;generalize sumS (x.terms.take k)=o at *;have HA:Hid (Below wr.heap.size wr (wr.alloc (.cells #[.string y.v,.int .i64 y.c] 44))):=hJ ((zB _ _).alloc (zR _) _);have HCp:=hJ (kHW y.c hbd.1 hbd.2 y.v w1.heap.size o _ (HX.out.below HA.out hlp) (by omega) (by omega) (HEr.out _ HA.out));clear hkl hbd hnz hsz hl12
      go_wp2_with fail
      refine HCp.out.mono ?_;rintro e w4 ⟨rfl,hbx,hkb⟩;have HB4:Hid (Below w1.heap.size w1 w4):=hJ ((hB.trans (HA.out.mono hB.size)).trans (hkb.below (zR _) (by have:=hB.size;simp;omega)))
      go_wp2_with fail
      go_roundw
      case rel=>exact ⟨k+1,by omega,by go_num,hJ (by rw [HNx.out];exact hbx),HB4.out⟩
      case measure=>simp [intOf];omega
    · have HAll:Hid (sumS (x.terms.take k)=sumS x.terms):=hJ (by rw [zT (by rw [HL.out];omega)])
      have hsz:=kIO HVp.out.2.2.1 HVp.out.2.2.2.1 k (by rw [HL.out];omega);have hl12:k≤12:=by have q:=HVp.out.2.2.2.2.2;rw [HL.out] at q;omega
      have hcs:=HVp.out.2.2.2.2.1;rw [HAll.out] at HX y0 hsz;have HEd:Hid (endS (sumS x.terms) x.const=if endB (sumS x.terms) x.const then kDX (sumS x.terms) x.const ⟨#[]⟩ else sumS x.terms):=hJ rfl;have HEb:Hid (endB (sumS x.terms) x.const=((x.const != 0) || (sumS x.terms).toList.isEmpty)):=hJ rfl;generalize sumS x.terms=o at *;have HCp:=hJ (kHW x.const hcs.1 hcs.2 ⟨#[]⟩ w1.heap.size o _ HX.out (by omega) (by show (0:Nat)≤_;omega) (HEr.out _ (zB _ _)));have HWr:=hJ (HW1.out.trans (hB.mono HW1.out.size));by_cases hc0:x.const=0
      · have hd0:(x.const != 0)=false:=by rw [hc0];rfl
        clear hcs;cases ho:o.toList.isEmpty with
        | true =>
          have hq:endB o x.const=true:=by rw [HEb.out,hd0,ho];rfl
          clear hc0;have HF2:Hid (kAS x=kDX o x.const ⟨#[]⟩):=hJ (by rw [HF.out,HEd.out,hq];rfl)
          go_wp2_with fail
          refine HCp.out.mono ?_;rintro e w4 ⟨rfl,hbx,hkb⟩;have z0:=hbx.cell 0 _ rfl
          go_wp2_with fail
          go_ret;exact ⟨by rw [HF2.out];rfl,HWr.out.trans (hkb.below (by have:=HW1.out.size;omega) HWr.out.size)⟩
        | false =>
          have hq:endB o x.const=false:=by rw [HEb.out,hd0,ho];rfl
          have HF2:Hid (kAS x=o):=hJ (by rw [HF.out,HEd.out,hq];rfl);clear hc0
          go_wp2_with fail
          go_ret;exact ⟨by rw [HF2.out];rfl,HWr.out⟩
      · have hd0:(x.const != 0)=true:=bne_iff_ne.2 hc0
        have hq:endB o x.const=true:=by rw [HEb.out,hd0];rfl
        clear hc0;have HF2:Hid (kAS x=kDX o x.const ⟨#[]⟩):=hJ (by rw [HF.out,HEd.out,hq];rfl)
        go_wp2_with fail
        refine HCp.out.mono ?_;rintro e w4 ⟨rfl,hbx,hkb⟩;have z0:=hbx.cell 0 _ rfl
        go_wp2_with fail
        go_ret;exact ⟨by rw [HF2.out];rfl,HWr.out.trans (hkb.below (by have:=HW1.out.size;omega) HWr.out.size)⟩
def kBB (l:List Str) (sep:Str):Str:=⟨(Lib.join (l.map (·.data.toList)) sep.data.toList).toArray⟩
theorem lens_le {M:Nat}:∀ l:List Str,(∀ s ∈ l,s.size≤M)→Lib.lens (l.map (·.data.toList))≤l.length * M
 | [],_=>by simp [Lib.lens]
 | s :: l,h=>by
   have ih:=lens_le l (fun x hx=>h x (zO _ hx));have h1:s.data.toList.length≤M:=h s (zM ..);have e:Lib.lens ((s :: l).map (·.data.toList))=s.data.toList.length+Lib.lens (l.map (·.data.toList)):=by simp [Lib.lens]
   rw [e,List.length_cons,Nat.succ_mul];omega
theorem join_le {M:Nat} (l:List Str) (sep:Str) (h:∀ s ∈ l,s.size≤M):(Lib.join (l.map (·.data.toList)) sep.data.toList).length≤l.length * (M+sep.size):=by
 cases l with
 | nil=>simp [Lib.join_nil]
 | cons s l =>
   have q:=lens_le (s :: l) h;rw [List.map_cons] at q ⊢;rw [Lib.join_length];have e:sep.data.toList.length=sep.size:=rfl;rw [e,List.length_map,Nat.mul_add];rw [List.length_cons] at q ⊢;have:sep.size * l.length≤(l.length+1) * sep.size:=by rw [Nat.mul_comm];exact Nat.mul_le_mul_right _ (by omega)
   omega
theorem kHO {M:Nat} (l:List Str) (sep:Str) (h:∀ s ∈ l,s.size≤M):(kBB l sep).size≤l.length * (M+sep.size):=by
 have:=join_le l sep h
 show (Lib.join _ _).toArray.size≤_
 simpa using this
theorem kEV {S:Blk} {l:List Str} {a:Option Addr} {n c:Nat} {w:World} (h:Sl RStr S w a n c l) (sep:Str) (hn:n≤1000) (hz:∀ s ∈ l,s.size≤10000000) (hs:sep.size≤1000) :
 Calls Tryz.prog 105 #[.slice a n c,.string sep] w fun e w'=>e= .returned (.string (kBB l sep))∧Below w.heap.size w w':=by
 have hln:=h.len;by_cases h0:n=0
 · subst h0
   obtain rfl:l=[]:=zL hln;exact (Tryz.strings_Join_none a c sep w).mono fun e w' ⟨h1,h2⟩=>⟨h1,h2 ▸ zB _ _⟩
 · obtain ⟨b,off,rfl,hb,_⟩:=h.form 0 (by omega)
   have hlen:=join_le l sep hz;have hm:l.length * (10000000+sep.size)≤1000 * (10000000+1000):=Nat.mul_le_mul (by omega) (by omega);subst hln;have hlim:=zE hlen (zE hm (by decide:1000 * (10000000+1000)≤140737488355328))
   exact Tryz.strings_Join b off c l sep w (fun j x hx=>by
    obtain ⟨cs,hr,hc⟩:=h.cells j x hx;have hr:cs=[.string x]:=hr;subst hr;have:=hc 0 _ rfl;have e:RStr.size=1:=rfl;rw [e,Nat.mul_one,Nat.add_zero] at this;exact this) hb (by omega) h.cap hlim
def rowL (s:Shp):List Str:=if s.row.toList.isEmpty then [] else [s.row++⟨#[46,46]⟩]
def kB6 (s:Shp):Str:=((⟨#[91]⟩:Str)++kBB (rowL s++s.dims.map kAS) ⟨#[44,32]⟩)++⟨#[93]⟩
def kDW (s:Shp):Str:=if kAK s then kB6 s else ⟨#[]⟩
theorem kEA {α β :Type} [Inhabited α] (f: α → β) {l:List α} {k:Nat} (hk:k<l.length):(l.take (k+1)).map f=(l.take k).map f++[f (l.getD k default)]:=by
 rw [kAU hk,List.map_append];rfl
theorem parts_size (s:Shp) (hr:s.row.size≤10000):∀ x ∈ rowL s++s.dims.map kAS,x.size≤11000:=by
 intro x hx;rcases List.mem_append.1 hx with q | q
 · unfold rowL at q
   split at q
   · simp at q
   · rw [List.mem_singleton] at q
     subst q;rw [zS];have e:(⟨#[46,46]⟩:Str).size=2:=rfl;omega
 · obtain ⟨y,_,rfl⟩:=List.mem_map.1 q
   have:=kIA y;omega
theorem rowL_len (s:Shp):(rowL s).length≤1:=by unfold rowL;split <;> simp
theorem textH_size {s:Shp} (hr:s.row.size≤10000) (hd:s.dims.length≤6):(kB6 s).size≤100000:=by
 have q:=kHO (rowL s++s.dims.map kAS) ⟨#[44,32]⟩ (parts_size s hr);have q2:=rowL_len s;have e:(⟨#[44,32]⟩:Str).size=2:=rfl;rw [e,zP,List.length_map] at q;have q3:((rowL s).length+s.dims.length) * (11000+2)≤7 * 11002:=Nat.mul_le_mul (by omega) (by omega);unfold kB6;rw [zS,zS];have e1:(⟨#[91]⟩:Str).size=1:=rfl;have e2:(⟨#[93]⟩:Str).size=1:=rfl;omega
theorem shape_text {S:Blk} {x:Shp} {cs:List Value} {w:World} (h:RShp.rd S w cs x) (hz:szH x) (hd6:x.dims.length≤6) (E:Env w) :
 Calls Tryz.prog 155 #[.agg cs.toArray] w fun e w'=>e= .returned (.string (kB6 x))∧Below w.heap.size w w':=by
 obtain ⟨t,rfl,a,c,rfl,hs⟩:=h;have hm:=hs.small;have HZ:=hJ hz.2;have hrz:=hz.1;have HPs:=hJ (parts_size x hz.1);have HE:=hJ (fun (W:World) (hW:Below w.heap.size w W)=>E.below hW);have HT:Hid (kB6 x=((⟨#[91]⟩:Str)++kBB (rowL x++x.dims.map kAS) ⟨#[44,32]⟩)++⟨#[93]⟩):=hJ rfl;have HJz:=hJ (kHO (rowL x++x.dims.map kAS) ⟨#[44,32]⟩ (parts_size x hz.1));have HS0:=hJ hs;have hrl:=rowL_len x;clear hs E hz;generalize hn:x.dims.length=n at *;have HL:=hJ hn;clear hn;obtain ⟨B0,ya,hW0⟩:=box1 w 25 [.string x.row,.slice a n c];have xa0:=box0 ya 0 _ rfl;have xa1:=box0 ya 1 _ rfl;clear ya;have HS:=hJ (HS0.out.below B0.out);have HEW:=hJ (fun (W':World) (hW:Below (w.alloc (.cells #[.string x.row,.slice a n c] 25)).heap.size (w.alloc (.cells #[.string x.row,.slice a n c] 25)) W')=>HE.out W' (B0.out.trans (hW.mono B0.out.size)));clear HS0 HE;go_enter func155,ntmps155;cases hro:x.row.toList.isEmpty with
 | true =>
   have HR0:Hid (rowL x=[]):=hJ (by unfold rowL;rw [hro];rfl)
   go_wp2_with fail
   generalize (w.alloc (.cells #[.string x.row,.slice a n c] 25))=W at *;have HO0:Hid (Own RStr 9 (fun _=>False) W W.heap.size (.slice none 0 0) (rowL x++(x.dims.take 0).map kAS)):=hJ (by rw [HR0.out];exact Own.nil _ _ _ _ _);have HB0:Hid (Below W.heap.size W W):=hJ (zB _ _)
   go_loopw [3,18] (fun v i wr=>∃ k:Nat,k≤n∧i= .int .i64 k∧Hid (Own RStr 9 (fun _=>False) wr W.heap.size v (rowL x++(x.dims.take k).map kAS))∧Below W.heap.size W wr) (fun _ i _=>n - (intOf i).toNat)
   case atStart=>exact ⟨0,Nat.zero_le _,rfl,HO0,HB0.out⟩
   case round =>
    obtain ⟨k,hk,rfl,HO,hB⟩:=hrel;have hsz:=hB.size;by_cases hlt:k<n
    · obtain ⟨b,off,rfl,hbW,_⟩:=HS.out.form k hlt
      obtain ⟨_,hr,⟨ta,tc,rfl,_⟩,c0,c1⟩:=(HS.out.below hB).lin k hlt;have hkl:k<x.dims.length:=by rw [HL.out];exact hlt
      have HNx:=hJ (kEA kAS hkl);have HZk:=hJ (HZ.out _ (kAM hkl));have HR:=hJ hr;have HLen:Hid ((rowL x++(x.dims.take k).map kAS).length≤7):=hJ (by rw [zP,List.length_map,zN];omega);clear hr hkl;generalize x.dims.getD k default=y at *;have HA:Hid (Below wr.heap.size wr (wr.alloc (.cells #[.int .i64 y.const,.slice ta y.terms.length tc] 40))):=hJ ((zB _ _).alloc (zR _) _);have HC:=hJ (kG2 (RLin.below HR.out HA.out) HZk.out (HEW.out _ (hB.trans (HA.out.mono hB.size))));generalize kAS y=o at *;obtain ⟨va,vm,vc,rfl⟩:=HO.out.shape
      go_wp2_with fail
      refine HC.out.mono ?_;rintro e w4 ⟨rfl,hb4⟩;have HB4:=hJ (HA.out.trans (hb4.mono HA.out.size));have hz4:=HB4.out.size
      go_wp2_with (at_builtin;refine kA1 kEO rfl _ _ rfl W.heap.size _ _ rfl ((HO.out.below HB4.out).alloc _) _ o [.string o] rfl rfl (kA3 9 (by (simp only [kAJ,kAF,Array.getElem?_push,Array.size_push];simp))) (by have:=HLen.out;omega) (by have:=HLen.out;unfold maxLen;omega) (by simp;omega) ?_;intro v9 w9 hown9 hb9 hk9;obtain ⟨a9,m9,c9,rfl⟩:=hown9.shape)
      go_roundw
      case rel=>exact ⟨k+1,by omega,by go_num,hJ (by rw [HNx.out,← List.append_assoc];exact hown9),(hB.trans ((HB4.out.alloc HB4.out.size _).mono hB.size)).trans hb9⟩
      case measure=>simp [intOf];omega
    · have HAll:Hid (rowL x++(x.dims.take k).map kAS=rowL x++x.dims.map kAS):=hJ (by rw [zT (by rw [HL.out];omega)])
      rw [HAll.out] at HO;obtain ⟨va,vc,rfl,hsl⟩:=HO.out.sl;have hlen:(rowL x++x.dims.map kAS).length≤7:=by rw [zP,List.length_map,HL.out];omega
      have HC:=hJ (kEV hsl ⟨#[44,32]⟩ (by omega) (fun s hs=>zE (HPs.out s hs) (by decide)) (by decide))
      have hjz:(kBB (rowL x++x.dims.map kAS) ⟨#[44,32]⟩).size≤100000:=by
       have q:=HJz.out;have e:(⟨#[44,32]⟩:Str).size=2:=rfl;have q3:(rowL x++x.dims.map kAS).length * (11000+(⟨#[44,32]⟩:Str).size)≤7 * 11002:=Nat.mul_le_mul hlen (by rw [e];omega);omega
      clear hsl HJz HAll HPs;generalize kBB (rowL x++x.dims.map kAS) ⟨#[44,32]⟩=j at *;generalize (rowL x++x.dims.map kAS).length=m at *;have hjz2:((⟨#[91]⟩:Str)++j).size≤100001:=by rw [zS];show 1+j.size≤_;omega
      go_wp2_with fail
      refine HC.out.mono ?_;rintro e w4 ⟨rfl,hb4⟩
      go_wp2_with fail
      go_ret;exact ⟨by rw [HT.out];rfl,B0.out.trans ((hB.trans (hb4.mono hB.size)).mono B0.out.size)⟩
 | false =>
   have HR0:Hid (rowL x=[x.row++⟨#[46,46]⟩]):=hJ (by unfold rowL;rw [hro];rfl);have hrs:(x.row++(⟨#[46,46]⟩:Str)).size≤10002:=by rw [zS];show x.row.size+2≤_;omega
   go_wp2_with (at_builtin;refine kA1 kEO rfl _ _ rfl (w.alloc (.cells #[.string x.row,.slice a n c] 25)).heap.size _ [] rfl (Own.nil _ _ (fun _=>False) _ _) _ (x.row++(⟨#[46,46]⟩:Str)) [.string (x.row++(⟨#[46,46]⟩:Str))] rfl rfl (kA3 9 (by (simp only [kAJ,kAF,Array.getElem?_push,Array.size_push];simp))) (by simp) (by unfold maxLen;simp) (by simp) ?_;intro v9 w9 hown9 hb9 hk9;obtain ⟨a9,m9,c9,rfl⟩:=hown9.shape;have HB0:=hJ (((zB _ _).alloc (zR _) _).trans hb9);have r0:=kAE xa0 _ HB0.out;have r1:=kAE xa1 _ HB0.out)
   generalize (w.alloc (.cells #[.string x.row,.slice a n c] 25))=W at *;have HO0:Hid (Own RStr 9 (fun _=>False) w9 W.heap.size (.slice a9 m9 c9) (rowL x++(x.dims.take 0).map kAS)):=hJ (by rw [HR0.out];exact hown9);clear hown9 hb9 hk9
   go_loopw [3,18] (fun v i wr=>∃ k:Nat,k≤n∧i= .int .i64 k∧Hid (Own RStr 9 (fun _=>False) wr W.heap.size v (rowL x++(x.dims.take k).map kAS))∧Below W.heap.size W wr) (fun _ i _=>n - (intOf i).toNat)
   case atStart=>exact ⟨0,Nat.zero_le _,rfl,HO0,HB0.out⟩
   case round =>
    obtain ⟨k,hk,rfl,HO,hB⟩:=hrel;have hsz:=hB.size;by_cases hlt:k<n
    · obtain ⟨b,off,rfl,hbW,_⟩:=HS.out.form k hlt
      obtain ⟨_,hr,⟨ta,tc,rfl,_⟩,c0,c1⟩:=(HS.out.below hB).lin k hlt;have hkl:k<x.dims.length:=by rw [HL.out];exact hlt
      have HNx:=hJ (kEA kAS hkl);have HZk:=hJ (HZ.out _ (kAM hkl));have HR:=hJ hr;have HLen:Hid ((rowL x++(x.dims.take k).map kAS).length≤7):=hJ (by rw [zP,List.length_map,zN];omega);clear hr hkl;generalize x.dims.getD k default=y at *;have HA:Hid (Below wr.heap.size wr (wr.alloc (.cells #[.int .i64 y.const,.slice ta y.terms.length tc] 40))):=hJ ((zB _ _).alloc (zR _) _);have HC:=hJ (kG2 (RLin.below HR.out HA.out) HZk.out (HEW.out _ (hB.trans (HA.out.mono hB.size))));generalize kAS y=o at *;obtain ⟨va,vm,vc,rfl⟩:=HO.out.shape
      go_wp2_with fail
      refine HC.out.mono ?_;rintro e w4 ⟨rfl,hb4⟩;have HB4:=hJ (HA.out.trans (hb4.mono HA.out.size));have hz4:=HB4.out.size
      go_wp2_with (at_builtin;refine kA1 kEO rfl _ _ rfl W.heap.size _ _ rfl ((HO.out.below HB4.out).alloc _) _ o [.string o] rfl rfl (kA3 9 (by (simp only [kAJ,kAF,Array.getElem?_push,Array.size_push];simp))) (by have:=HLen.out;omega) (by have:=HLen.out;unfold maxLen;omega) (by simp;omega) ?_;intro v9 w9 hown9 hb9 hk9;obtain ⟨a9,m9,c9,rfl⟩:=hown9.shape)
      go_roundw
      case rel=>exact ⟨k+1,by omega,by go_num,hJ (by rw [HNx.out,← List.append_assoc];exact hown9),(hB.trans ((HB4.out.alloc HB4.out.size _).mono hB.size)).trans hb9⟩
      case measure=>simp [intOf];omega
    · have HAll:Hid (rowL x++(x.dims.take k).map kAS=rowL x++x.dims.map kAS):=hJ (by rw [zT (by rw [HL.out];omega)])
      rw [HAll.out] at HO;obtain ⟨va,vc,rfl,hsl⟩:=HO.out.sl;have hlen:(rowL x++x.dims.map kAS).length≤7:=by rw [zP,List.length_map,HL.out];omega
      have HC:=hJ (kEV hsl ⟨#[44,32]⟩ (by omega) (fun s hs=>zE (HPs.out s hs) (by decide)) (by decide))
      have hjz:(kBB (rowL x++x.dims.map kAS) ⟨#[44,32]⟩).size≤100000:=by
       have q:=HJz.out;have e:(⟨#[44,32]⟩:Str).size=2:=rfl;have q3:(rowL x++x.dims.map kAS).length * (11000+(⟨#[44,32]⟩:Str).size)≤7 * 11002:=Nat.mul_le_mul hlen (by rw [e];omega);omega
      clear hsl HJz HAll HPs;generalize kBB (rowL x++x.dims.map kAS) ⟨#[44,32]⟩=j at *;generalize (rowL x++x.dims.map kAS).length=m at *;have hjz2:((⟨#[91]⟩:Str)++j).size≤100001:=by rw [zS];show 1+j.size≤_;omega
      go_wp2_with fail
      refine HC.out.mono ?_;rintro e w4 ⟨rfl,hb4⟩
      go_wp2_with fail
      go_ret;exact ⟨by rw [HT.out];rfl,B0.out.trans ((hB.trans (hb4.mono hB.size)).mono B0.out.size)⟩
theorem shape_Print {S:Blk} {x:Shp} {cs:List Value} {w:World} (h:RShp.rd S w cs x) (hz:szH x) (E:Env w) :
 Calls Tryz.prog 106 #[.agg cs.toArray] w fun e w'=>e= .returned (.tuple #[.string (kDW x),.int .i64 (if kAK x then 0 else 1)])∧Below w.heap.size w w':=by
 have HV:Hid (∀ W,Below w.heap.size w W→Calls Tryz.prog 120 #[.agg cs.toArray] W fun e w'=>e= .returned (.bool (kAK x))∧Below W.heap.size W w'):=hJ (fun W hW=>kDI (RShp.below h hW) hz (E.below hW));have HX:Hid (kAK x=true→∀ W,Below w.heap.size w W→Calls Tryz.prog 155 #[.agg cs.toArray] W fun e w'=>e= .returned (.string (kB6 x))∧Below W.heap.size W w'):=hJ (fun hv W hW=>shape_text (RShp.below h hW) hz (kFM hv).2.1 (E.below hW));obtain ⟨t,rfl,a,c,rfl,hs⟩:=h;clear hs E hz;obtain ⟨B0,ya,hW0⟩:=box1 w 25 [.string x.row,.slice a x.dims.length c];have xa0:=box0 ya 0 _ rfl;have xa1:=box0 ya 1 _ rfl;clear ya;have HC:=hJ (HV.out _ B0.out);cases hv:kAK x with
 | false =>
   have HF:Hid (kDW x=⟨#[]⟩):=hJ (by unfold kDW;rw [hv];rfl);rw [hv] at HC;go_enter func106,ntmps106
   go_wp2_with fail
   refine (HC.out).mono ?_;rintro e w1 ⟨rfl,hb⟩
   go_wp2_with fail
   go_returns
   exact ⟨by rw [HF.out];rfl,B0.out.trans (hb.mono B0.out.size)⟩
 | true =>
   have HF:Hid (kDW x=kB6 x):=hJ (by unfold kDW;rw [hv];rfl);have HX2:=hJ (HX.out hv);rw [hv] at HC;go_enter func106,ntmps106
   go_wp2_with fail
   refine (HC.out).mono ?_;rintro e w1 ⟨rfl,hb⟩;have HW1:=hJ (B0.out.trans (hb.mono B0.out.size));have g0:=kAE xa0 _ hb;have g1:=kAE xa1 _ hb;have hlw:w.heap.size<w1.heap.size:=kB5 g1;have HC2:=hJ (HX2.out _ HW1.out)
   go_wp2_with fail
   refine (HC2.out).mono ?_;rintro e w2 ⟨rfl,hb2⟩
   go_wp2_with fail
   go_returns
   exact ⟨by rw [HF.out];rfl,HW1.out.trans (hb2.mono HW1.out.size)⟩
def kA9 (t:Typ):Str:=if (kDW t.shape).toList==[91,93] then t.elem else kDW t.shape++t.elem
theorem kHA {S:Blk} {x:Typ} {cs:List Value} {w:World} (h:RTyp.rd S w cs x) (hz:szT x) (E:Env w) :
 Calls Tryz.prog 48 #[.agg cs.toArray] w fun e w'=>e= .returned (.string (kA9 x))∧Below w.heap.size w w':=by
 obtain ⟨t,rfl,a,c,rfl,hs⟩:=h
 have HX:Hid (∀ W,Below w.heap.size w W→Calls Tryz.prog 106 #[.agg #[.string x.shape.row,.slice a x.shape.dims.length c]] W fun e w'=>e= .returned (.tuple #[.string (kDW x.shape),.int .i64 (if kAK x.shape then 0 else 1)])∧Below W.heap.size W w') :=
  hJ (fun W hW=>shape_Print (cs:=[.string x.shape.row,.slice a x.shape.dims.length c]) ⟨_,rfl,a,c,rfl,hs.below hW⟩ hz.2 (E.below hW))
 have hez:x.elem.size≤10000:=hz.1
 have hpz:(kDW x.shape).size≤100000:=by
  unfold kDW
  split
  · rename_i hv;exact textH_size hz.2.1 (kFM hv).2.1
  · exact Nat.zero_le _
 have HT:Hid (kA9 x=if (kDW x.shape).toList==[91,93] then x.elem else kDW x.shape++x.elem):=hJ rfl;clear hs E hz;obtain ⟨B0,ya,hW0⟩:=box1 w 27 [.string x.elem,.string x.shape.row,.slice a x.shape.dims.length c];have xa0:=box0 ya 0 _ rfl;have xa1:=box0 ya 1 _ rfl;have xa2:=box0 ya 2 _ rfl;clear ya;have HC:=hJ (HX.out _ B0.out);generalize kDW x.shape=p at *;generalize (if kAK x.shape then (0:Int) else 1)=ev at *;by_cases hq:(p.toList==[91,93])=true
 · have HF:Hid (kA9 x=x.elem):=hJ (by rw [HT.out,if_pos hq])
   go_enter func48,ntmps48
   go_wp2_with fail
   refine (HC.out).mono ?_;rintro e w1 ⟨rfl,hb⟩;have g0:=kAE xa0 _ hb
   go_wp2_with fail
   go_ret;exact ⟨by rw [HF.out];rfl,B0.out.trans (hb.mono B0.out.size)⟩
 · have HF:Hid (kA9 x=p++x.elem):=hJ (by rw [HT.out,if_neg hq])
   have hq:(p.toList==[91,93])=false:=by simpa using hq
   go_enter func48,ntmps48
   go_wp2_with fail
   refine (HC.out).mono ?_;rintro e w1 ⟨rfl,hb⟩;have g0:=kAE xa0 _ hb
   go_wp2_with fail
   go_ret;exact ⟨by rw [HF.out];rfl,B0.out.trans (hb.mono B0.out.size)⟩
theorem joinedTyp {S:Blk} (l:List Typ) (a:Option Addr) (n c:Nat) (w:World) (h:Sl RTyp S w a n c l) (g:FuncId) (hen:Ent1 g) (pr:Typ→Str) (hp:∀ (W:World) (x:Typ) (cs:List Value),Below w.heap.size w W→x ∈ l→RTyp.rd S W cs x→Calls Tryz.prog g #[.agg cs.toArray] W fun e w'=>e= .returned (.string (pr x))∧Below W.heap.size W w') (hsz:∀ x ∈ l,(pr x).size≤1000000) (hn:n≤100) :
 Calls Tryz.prog 47 #[.slice a n c,.func (.func g) #[] #[]] w fun e w'=>e= .returned (.string (kBB (l.map pr) ⟨#[44,32]⟩))∧Below w.heap.size w w':=by
 have HS:=hJ h;have HL:=hJ h.len;have HP:=hJ hp;have HZ:=hJ hsz;have hm:=h.small;clear h hp hsz;go_enter func47,ntmps47
 go_wp2_with fail
 go_loopw [5,10] (fun v i wr=>∃ k:Nat,k≤n∧i= .int .i64 k∧Hid (Own RStr 9 (fun _=>False) wr w.heap.size v ((l.take k).map pr))∧Below w.heap.size w wr) (fun _ i _=>n - (intOf i).toNat)
 case atStart=>exact ⟨0,Nat.zero_le _,rfl,Own.nil _ _ _ _ _,zB _ _⟩
 case round =>
  obtain ⟨k,hk,rfl,HO,hB⟩:=hrel;have hz:=hB.size;by_cases hlt:k<n
  · obtain ⟨b,off,rfl,hbW,_⟩:=HS.out.form k hlt
    obtain ⟨_,hr,⟨ta,tc,rfl,_⟩,c0,c1,c2⟩:=(HS.out.below hB).typ k hlt;have hkl:k<l.length:=by rw [HL.out];exact hlt
    have HNx:=hJ (kEA pr hkl);have HM:=hJ (kAM hkl);have HR:=hJ hr;have HLen:Hid (((l.take k).map pr).length≤100):=hJ (by rw [List.length_map,zN];omega);clear hr hkl;generalize l.getD k default=y at *;have HA:Hid (Below wr.heap.size wr (wr.alloc (.cells [.string y.elem,.string y.shape.row,.slice ta y.shape.dims.length tc].toArray 27))):=hJ ((zB _ _).alloc (zR _) _);have HC:=hJ (HP.out _ _ _ (hB.trans (HA.out.mono hB.size)) HM.out (RTyp.below HR.out HA.out));generalize pr y=o at *;obtain ⟨va,vm,vc,rfl⟩:=HO.out.shape
    go_wp2_with (first | (go_at_fn g;refine HC.out.mono ?_;rintro e w4 ⟨rfl,hb4⟩;have HB4:=hJ (HA.out.trans (hb4.mono HA.out.size));have hz4:=HB4.out.size) | (at_builtin;refine kA1 kEO rfl _ _ rfl w.heap.size _ _ rfl ((HO.out.below HB4.out).alloc _) _ o [.string o] rfl rfl (kA3 9 (by (simp only [kAJ,kAF,Array.getElem?_push,Array.size_push];simp))) (by have:=HLen.out;omega) (by have:=HLen.out;unfold maxLen;omega) (by simp;omega) ?_;intro v9 w9 hown9 hb9 hk9;obtain ⟨a9,m9,c9,rfl⟩:=hown9.shape))
    go_roundw
    case rel=>exact ⟨k+1,by omega,by go_num,hJ (by rw [HNx.out];exact hown9),(hB.trans ((HB4.out.alloc HB4.out.size _).mono hB.size)).trans hb9⟩
    case measure=>simp [intOf];omega
  · have HAll:Hid ((l.take k).map pr=l.map pr):=hJ (by rw [zT (by rw [HL.out];omega)])
    rw [HAll.out] at HO;obtain ⟨va,vc,rfl,hsl⟩:=HO.out.sl;have hlen:(l.map pr).length≤100:=by rw [List.length_map,HL.out];exact hn
    have HC:=hJ (kEV hsl ⟨#[44,32]⟩ (by omega) (fun s hs=>by obtain ⟨x,hx,rfl⟩:=List.mem_map.1 hs;exact zE (HZ.out x hx) (by decide)) (by decide));clear hsl HAll;generalize (l.map pr).length=m at *
    go_wp2_with fail
    refine HC.out.mono ?_;rintro e w4 ⟨rfl,hb4⟩
    go_wp2_with fail
    go_ret;exact ⟨rfl,hB.trans (hb4.mono hB.size)⟩
theorem joinedLin {S:Blk} (l:List Lin) (a:Option Addr) (n c:Nat) (w:World) (h:Sl RLin S w a n c l) (g:FuncId) (hen:Ent1 g) (pr:Lin→Str) (hp:∀ (W:World) (x:Lin) (cs:List Value),Below w.heap.size w W→x ∈ l→RLin.rd S W cs x→Calls Tryz.prog g #[.agg cs.toArray] W fun e w'=>e= .returned (.string (pr x))∧Below W.heap.size W w') (hsz:∀ x ∈ l,(pr x).size≤1000000) (hn:n≤100) :
 Calls Tryz.prog 49 #[.slice a n c,.func (.func g) #[] #[]] w fun e w'=>e= .returned (.string (kBB (l.map pr) ⟨#[44,32]⟩))∧Below w.heap.size w w':=by
 have HS:=hJ h;have HL:=hJ h.len;have HP:=hJ hp;have HZ:=hJ hsz;have hm:=h.small;clear h hp hsz;go_enter func49,ntmps49
 go_wp2_with fail
 go_loopw [5,10] (fun v i wr=>∃ k:Nat,k≤n∧i= .int .i64 k∧Hid (Own RStr 9 (fun _=>False) wr w.heap.size v ((l.take k).map pr))∧Below w.heap.size w wr) (fun _ i _=>n - (intOf i).toNat)
 case atStart=>exact ⟨0,Nat.zero_le _,rfl,Own.nil _ _ _ _ _,zB _ _⟩
 case round =>
  obtain ⟨k,hk,rfl,HO,hB⟩:=hrel;have hz:=hB.size;by_cases hlt:k<n
  · obtain ⟨b,off,rfl,hbW,_⟩:=HS.out.form k hlt
    obtain ⟨_,hr,⟨ta,tc,rfl,_⟩,c0,c1⟩:=(HS.out.below hB).lin k hlt;have hkl:k<l.length:=by rw [HL.out];exact hlt
    have HNx:=hJ (kEA pr hkl);have HM:=hJ (kAM hkl);have HR:=hJ hr;have HLen:Hid (((l.take k).map pr).length≤100):=hJ (by rw [List.length_map,zN];omega);clear hr hkl;generalize l.getD k default=y at *;have HA:Hid (Below wr.heap.size wr (wr.alloc (.cells [.int .i64 y.const,.slice ta y.terms.length tc].toArray 40))):=hJ ((zB _ _).alloc (zR _) _);have HC:=hJ (HP.out _ _ _ (hB.trans (HA.out.mono hB.size)) HM.out (RLin.below HR.out HA.out));generalize pr y=o at *;obtain ⟨va,vm,vc,rfl⟩:=HO.out.shape
    go_wp2_with (first | (go_at_fn g;refine HC.out.mono ?_;rintro e w4 ⟨rfl,hb4⟩;have HB4:=hJ (HA.out.trans (hb4.mono HA.out.size));have hz4:=HB4.out.size) | (at_builtin;refine kA1 kEO rfl _ _ rfl w.heap.size _ _ rfl ((HO.out.below HB4.out).alloc _) _ o [.string o] rfl rfl (kA3 9 (by (simp only [kAJ,kAF,Array.getElem?_push,Array.size_push];simp))) (by have:=HLen.out;omega) (by have:=HLen.out;unfold maxLen;omega) (by simp;omega) ?_;intro v9 w9 hown9 hb9 hk9;obtain ⟨a9,m9,c9,rfl⟩:=hown9.shape))
    go_roundw
    case rel=>exact ⟨k+1,by omega,by go_num,hJ (by rw [HNx.out];exact hown9),(hB.trans ((HB4.out.alloc HB4.out.size _).mono hB.size)).trans hb9⟩
    case measure=>simp [intOf];omega
  · have HAll:Hid ((l.take k).map pr=l.map pr):=hJ (by rw [zT (by rw [HL.out];omega)])
    rw [HAll.out] at HO;obtain ⟨va,vc,rfl,hsl⟩:=HO.out.sl;have hlen:(l.map pr).length≤100:=by rw [List.length_map,HL.out];exact hn
    have HC:=hJ (kEV hsl ⟨#[44,32]⟩ (by omega) (fun s hs=>by obtain ⟨x,hx,rfl⟩:=List.mem_map.1 hs;exact zE (HZ.out x hx) (by decide)) (by decide));clear hsl HAll;generalize (l.map pr).length=m at *
    go_wp2_with fail
    refine HC.out.mono ?_;rintro e w4 ⟨rfl,hb4⟩
    go_wp2_with fail
    go_ret;exact ⟨rfl,hB.trans (hb4.mono hB.size)⟩
def headS (s:Sch):Str:=(((⟨#[40]⟩:Str)++kBB (s.params.map kA9) ⟨#[44,32]⟩)++⟨#[41,32,45,62,32]⟩)++kA9 s.result
def whereS (s:Sch):Str:=(⟨#[32,119,104,101,114,101,32]⟩:Str)++kBB (s.wh.map kAS) ⟨#[44,32]⟩
def kC4 (s:Sch):Str:=if 0<s.wh.length then headS s++whereS s else headS s
def kGM (s:Sch):Str:=if kAI s then kC4 s else ⟨#[]⟩
theorem printH_size {s:Shp} (hz:szH s):(kDW s).size≤100000:=by
 unfold kDW
 split
 · rename_i hv;exact textH_size hz.1 (kFM hv).2.1
 · exact Nat.zero_le _
theorem textT_size {t:Typ} (hz:szT t):(kA9 t).size≤110000:=by
 have h1:=printH_size hz.2;have h2:=hz.1;unfold kA9
 split
 · omega
 · rw [zS];omega
theorem joinT_size {s:Sch} (hz:szS s) (hl:s.params.length≤12):(kBB (s.params.map kA9) ⟨#[44,32]⟩).size≤2000000:=by
 have q:=kHO (M:=110000) (s.params.map kA9) ⟨#[44,32]⟩ (fun x hx=>by
  obtain ⟨t,ht,rfl⟩:=List.mem_map.1 hx;exact textT_size (hz.1 t ht))
 rw [List.length_map] at q;have q3:s.params.length * (110000+(⟨#[44,32]⟩:Str).size)≤12 * 110002:=Nat.mul_le_mul hl (zR _);omega
theorem joinL_size {s:Sch} (hl:s.wh.length≤60):(kBB (s.wh.map kAS) ⟨#[44,32]⟩).size≤200000:=by
 have q:=kHO (M:=2000) (s.wh.map kAS) ⟨#[44,32]⟩ (fun x hx=>by
  obtain ⟨t,ht,rfl⟩:=List.mem_map.1 hx;exact kIA t)
 rw [List.length_map] at q;have q3:s.wh.length * (2000+(⟨#[44,32]⟩:Str).size)≤60 * 2002:=Nat.mul_le_mul hl (zR _);omega
theorem kFG {S:Blk} {x:Sch} {cs:List Value} {w:World} (h:RSch.rd S w cs x) (hz:szS x) (E:Env w) :
 Calls Tryz.prog 14 #[.agg cs.toArray] w fun e w'=>e= .returned (.tuple #[.string (kGM x),.int .i64 (if kAI x then 0 else 1)])∧Below w.heap.size w w':=by
 have HV:Hid (∀ W,Below w.heap.size w W→Calls Tryz.prog 16 #[.agg cs.toArray] W fun e w'=>e= .returned (.bool (kAI x))∧Below W.heap.size W w'):=hJ (fun W hW=>kBK (RSch.below h hW) hz (E.below hW));have HE:=hJ (fun (W:World) (hW:Below w.heap.size w W)=>E.below hW);have HZ:=hJ hz;obtain ⟨p,t,q,rfl,⟨ap,cp,rfl,hp⟩,⟨at_,ct,rfl,ht⟩,⟨aq,cq,rfl,hq⟩⟩:=h;have HPs:=hJ hp;have HTs:=hJ ht;have HQs:=hJ hq;have hmq:=hq.small;clear hp ht hq E hz;obtain ⟨B0,ya,hW0⟩:=box1 w 29 [.slice ap x.params.length cp,.string x.result.elem,.string x.result.shape.row,.slice at_ x.result.shape.dims.length ct,.slice aq x.wh.length cq];have xa0:=box0 ya 0 _ rfl;have xa1:=box0 ya 1 _ rfl;have xa2:=box0 ya 2 _ rfl;have xa3:=box0 ya 3 _ rfl;have xa4:=box0 ya 4 _ rfl;clear ya;have HC:=hJ (HV.out _ B0.out);cases hv:kAI x with
 | false =>
   have HF:Hid (kGM x=⟨#[]⟩):=hJ (by unfold kGM;rw [hv];rfl);rw [hv] at HC;clear HV;go_enter func14,ntmps14
   go_wp2_with fail
   refine (HC.out).mono ?_;rintro e w1 ⟨rfl,hb⟩
   go_wp2_with fail
   go_returns
   exact ⟨by rw [HF.out];rfl,B0.out.trans (hb.mono B0.out.size)⟩
 | true =>
   have HF:Hid (kGM x=kC4 x):=hJ (by unfold kGM;rw [hv];rfl);obtain ⟨hl1,hl2,_⟩:=kAO hv;have hjt:=joinT_size HZ.out hl1;have hjl:=joinL_size (s:=x) hl2;have htr:=textT_size HZ.out.2.1;have HH:Hid (headS x=(((⟨#[40]⟩:Str)++kBB (x.params.map kA9) ⟨#[44,32]⟩)++⟨#[41,32,45,62,32]⟩)++kA9 x.result):=hJ rfl;have HW:Hid (whereS x=(⟨#[32,119,104,101,114,101,32]⟩:Str)++kBB (x.wh.map kAS) ⟨#[44,32]⟩):=hJ rfl;have HX0:Hid (x.wh.length=0→kC4 x=headS x):=hJ (fun q=>by unfold kC4;rw [if_neg (by omega)]);have HX1:Hid (0<x.wh.length→kC4 x=headS x++whereS x):=hJ (fun q=>by unfold kC4;rw [if_pos q]);rw [hv] at HC;clear HV hv;go_enter func14,ntmps14
   go_wp2_with fail
   refine (HC.out).mono ?_;rintro e w1 ⟨rfl,hb⟩;have HW1:Hid (Below w.heap.size w w1):=hJ (B0.out.trans (hb.mono B0.out.size));have g0:=kAE xa0 _ hb;have g1:=kAE xa1 _ hb;have g2:=kAE xa2 _ hb;have g3:=kAE xa3 _ hb;have g4:=kAE xa4 _ hb;clear xa0 xa1 xa2 xa3 xa4 hb HC B0 hW0;have HCj:=hJ (fun t9:Later w1=>joinedTyp x.params ap _ cp t9.w (HPs.out.below (HW1.out.trans (t9.b.mono HW1.out.size))) 48 (kBJ func48 rfl rfl) kA9 (fun W y cs hW hm hr=>kHA hr (HZ.out.1 y hm) (HE.out W ((HW1.out.trans (t9.b.mono HW1.out.size)).trans (hW.mono (HW1.out.trans (t9.b.mono HW1.out.size)).size)))) (fun y hy=>zE (textT_size (HZ.out.1 y hy)) (by decide)) (by omega));have HCt:=hJ (fun t9:Later w1=>kHA (x:=x.result) (cs:=[.string x.result.elem,.string x.result.shape.row,.slice at_ x.result.shape.dims.length ct]) (S:=S) (w:=t9.w) ⟨_,rfl,at_,ct,rfl,HTs.out.below (HW1.out.trans (t9.b.mono HW1.out.size))⟩ HZ.out.2.1 (HE.out _ (HW1.out.trans (t9.b.mono HW1.out.size))));have HCl:=hJ (fun (W:World) (hW:Below w1.heap.size w1 W)=>joinedLin x.wh aq _ cq W (HQs.out.below (HW1.out.trans (hW.mono HW1.out.size))) 50 (kBJ func50 rfl rfl) kAS (fun W' y cs hW' hm hr=>kG2 hr (HZ.out.2.2 y hm) (HE.out W' ((HW1.out.trans (hW.mono HW1.out.size)).trans (hW'.mono (HW1.out.trans (hW.mono HW1.out.size)).size)))) (fun y hy=>zE (kIA y) (by decide)) (by omega));generalize kBB (x.params.map kA9) ⟨#[44,32]⟩=jt at *;generalize kBB (x.wh.map kAS) ⟨#[44,32]⟩=jl at *;generalize kA9 x.result=tr at *;have hs1:((⟨#[40]⟩:Str)++jt).size≤2000001:=by rw [zS];show 1+_≤_;omega
   have hs2:(((⟨#[40]⟩:Str)++jt)++(⟨#[41,32,45,62,32]⟩:Str)).size≤2000006:=by rw [zS];show _+5≤_;omega
   have hs3:((((⟨#[40]⟩:Str)++jt)++(⟨#[41,32,45,62,32]⟩:Str))++tr).size≤2110006:=by rw [zS];omega
   have hs4:((⟨#[32,119,104,101,114,101,32]⟩:Str)++jl).size≤200007:=by rw [zS];show 7+_≤_;omega
   have G0:=Later.cell g0;have G1:=Later.cell g1;have G2:=Later.cell g2;have G3:=Later.cell g3;have G4:=Later.cell g4
   go_wp2_with fail
   refine kAC (by kernel_rfl) (by kernel_rfl) ?_
   repeat (go_big_quiet_step (first | fail | exact Later.call (HCj.out _) | exact Later.call (HCt.out _)))
   refine wpQuiet_nil ?_;rintro _ ⟨t9,rfl⟩;have HB9:=hJ t9.b;have y4:=G4 t9;generalize t9.w=w2 at *;clear G0 G1 G2 G3 G4 g0 g1 g2 g3 g4;generalize hnw:x.wh.length=nw at *;by_cases hw:nw=0
   · have HF2:Hid (kGM x=headS x):=hJ (by rw [HF.out,HX0.out hw])
     have hw2:¬((0:Int)<(nw:Int)):=by omega
     clear hw hnw
     go_wp2_with fail
     go_returns
     exact ⟨by rw [HF2.out,HH.out];rfl,HW1.out.trans (HB9.out.mono HW1.out.size)⟩
   · have HF2:Hid (kGM x=headS x++whereS x):=hJ (by rw [HF.out,HX1.out (by omega)])
     have hw2:(0:Int)<(nw:Int):=by omega
     have HC3:=hJ (HCl.out _ HB9.out);clear hw hnw
     go_wp2_with fail
     refine HC3.out.mono ?_;rintro e w3 ⟨rfl,hb3⟩
     go_wp2_with fail
     go_returns
     exact ⟨by rw [HF2.out,HH.out,HW.out];rfl,HW1.out.trans ((HB9.out.trans (hb3.mono HB9.out.size)).mono HW1.out.size)⟩
open Go.RowKit Go.Shelf
attribute [local go_sem] Oper.semAt_some
structure E6 where
 x:Ent
 p:Option Addr
 pc:Nat
 t:Option Addr
 tc:Nat
 q:Option Addr
 qc:Nat
instance:Inhabited E6:=⟨⟨default,none,0,none,0,none,0⟩⟩
def E6.cs (e:E6):List Value:=[.string e.x.name,.slice e.p e.x.scheme.params.length e.pc,.string e.x.scheme.result.elem,.string e.x.scheme.result.shape.row,.slice e.t e.x.scheme.result.shape.dims.length e.tc,.slice e.q e.x.scheme.wh.length e.qc]
theorem E6.of {S:Blk} {w:World} {cs:List Value} {x:Ent} (h:REnt.rd S w cs x):∃ e:E6,e.x=x∧cs=e.cs:=by
 obtain ⟨_,rfl,_,_,_,rfl,⟨p,pc,rfl,_⟩,⟨t,tc,rfl,_⟩,⟨q,qc,rfl,_⟩⟩:=h;exact ⟨⟨x,p,pc,t,tc,q,qc⟩,rfl,rfl⟩
def Hold6 (n₀ :Nat) (W:World) (sv:Value) (zs:List E6):Prop :=
 (sv= .slice none 0 0∧zs=[])∨∃ b off cap,sv= .slice (some ⟨b,off,none⟩) zs.length cap∧b<n₀ ∧∀ j x,zs[j]? =some x→∀ i u,x.cs[i]? =some u→W.cell? ⟨b,off+(j * 6+i),none⟩=some u
theorem Hold6.below {n₀ :Nat} {A B:World} (h:Below n₀ A B) {sv:Value} {zs:List E6}:Hold6 n₀ A sv zs→Hold6 n₀ B sv zs
 | .inl e=>.inl e
 | .inr ⟨b,off,cap,e,hb,hc⟩=>.inr ⟨b,off,cap,e,hb,fun j x hx i u hu=>(h.cell (p:=⟨b,off+(j * 6+i),none⟩) hb).trans (hc j x hx i u hu)⟩
theorem Own.one {E:TypeId} {S:Blk} {w:World} {g base:Nat} {s:Str} (h:w.heap[g]? =some (.cells #[.string s] E (0,0))) (hb:base≤g):Own RStr E S w base (.slice (some ⟨g,0,none⟩) 1 1) [s] :=
 ⟨⟨[[.string s]],rfl,⟨by simp [RStr],.inr ⟨g,1,#[.string s],rfl,hb,h,zR _,by unfold maxLen;omega,by simp [RStr],by simp [RStr]⟩⟩,fun i x hx=>by
   cases i with
   | zero=>simp at hx;subst hx;exact ⟨_,rfl,rfl⟩
   | succ i=>simp at hx⟩⟩
theorem kA2:ElemOf Tryz.prog 23 40 RLin.size 32:=⟨by kernel_rfl,by kernel_rfl⟩
theorem nil_eql (w:World):(binOp .eql 38 (.slice none 0 0) (.slice none 0 0)).run Tryz.prog w= .ok (.bool true) w:=by kernel_rfl
theorem some_eql (w:World) (ad:Addr) (n c:Nat):(binOp .eql 38 (.slice (some ad) n c) (.slice none 0 0)).run Tryz.prog w= .ok (.bool false) w:=by kernel_rfl
theorem slices_Clone {S:Blk} (l:List Coef) (a:Option Addr) (n c:Nat) (w:World) (h:Sl kA7 S w a n c l) (hn:n≤1000000) :
 Calls Tryz.prog 216 #[.slice a n c] w fun e w'=>(∃ v,e= .returned v∧SlV kA7 (fun k=>w.heap.size≤k) w' v l)∧Below w.heap.size w w':=by
 have HL:=hJ h.len;cases a with
 | none =>
   have h0:=h.nil rfl;have h1:=h.cap;subst h0;have h2:n=0:=by omega
   subst h2;have hl:l=[]:=zL HL.out;subst hl;have hq:=nil_eql;go_enter func216,ntmps216
   go_wp2_with fail
   go_ret;exact ⟨⟨_,rfl,none,0,rfl,Sl.empty _ _ _⟩,zB _ _⟩
 | some ad =>
   have HS:=hJ h;clear h;have hq:=fun w=>some_eql w ad n c
   have h0:∀ k,(Value.slice (some ⟨w.heap.size,0,none⟩) 0 0).ownBlock=some k→w.heap.size≤k:=by intro k e;simp [Value.ownBlock] at e;omega
   go_enter func216,ntmps216
   go_wp2_with (at_builtin;refine app_sl kDB rfl _ _ rfl w.heap.size _ [] l rfl (Own.at0 kA7 _ S (by (simp only [kAJ,kAF,Array.getElem?_push,Array.size_push];simp)) (zR _)) (some ad) _ c rfl (HS.out.later ((zB _ _).alloc (zR _) _) h0) (by simp;omega) (by unfold maxLen;simp;omega) (by simp) ?_;intro v9 w9 hown9 hb9 hk9)
   go_ret;refine ⟨⟨v9,rfl,?_⟩,((zB _ _).alloc (zR _) _).trans hb9⟩;rw [List.nil_append] at hown9;obtain ⟨a9,c9,rfl,hs9⟩:=hown9.sl;refine ⟨a9,c9,rfl,hs9.selfCoef.mono (fun k hk _=>hown9.base_le k (kH0 hk))⟩
theorem shape_clones {S:Blk} (l:List Lin) (a:Option Addr) (n c:Nat) (w:World) (h:Sl RLin S w a n c l) (hn:n≤1000) (hl:∀ x ∈ l,x.terms.length≤1000) :
 Calls Tryz.prog 147 #[.slice a n c] w fun e w'=>(∃ v,e= .returned v∧Own RLin 40 (fun k=>w.heap.size≤k) w' w.heap.size v l)∧Below w.heap.size w w':=by
 have H:=hJ h;have HLs:=hJ hl;have HL:=hJ h.len;have hm:=h.small;clear h hl;go_enter func147,ntmps147
 go_wp2_with fail
 go_loopw [3,8] (fun v i wr=>∃ (k:Nat) (v0:Value),k≤n∧i= .int .i64 k∧v0=v∧Hid (Own RLin 40 (fun k=>w.heap.size≤k) wr w.heap.size v (l.take k))∧Below w.heap.size w wr) (fun _ i _=>n - (intOf i).toNat)
 case atStart=>exact ⟨0,_,Nat.zero_le _,rfl,rfl,hJ (Own.nil _ _ _ _ _),zB _ _⟩
 case round =>
  obtain ⟨k,v0,hk,rfl,rfl,HO,hB⟩:=hrel;by_cases hlt:k<n
  · obtain ⟨b,off,rfl,hbW,_⟩:=H.out.form k hlt
    obtain ⟨t,hr,⟨at_,ct,rfl,hts⟩,c0,c1⟩:=(H.out.below hB).lin k hlt;have HK:Hid (k<l.length):=hJ (by rw [HL.out];exact hlt);have HNext:Hid (l.take (k+1)=l.take k++[l.getD k default]):=hJ (kAU HK.out);have hkl:(l.take k).length=k:=by rw [zN,HL.out];omega
    have hxl:=HLs.out _ (kAM HK.out);have HTs:=hJ hts;clear hr hts;generalize l.getD k default=x at *;generalize l.take k=lk at *;have HC:=hJ (fun (W':World) (hW':Below wr.heap.size wr W')=>slices_Clone x.terms at_ _ ct W' (HTs.out.below hW') (by omega));generalize hxL:x.terms.length=L at *;have HXL:=hJ hxL;clear hxL
    go_wp2_with fail
    have hA:Below wr.heap.size wr (wr.alloc (.cells #[.int .i64 x.const,.slice at_ L ct] 40)):=(zB _ _).alloc (zR _) _;have HT0:=hJ (Bx.fresh wr 40 [.int .i64 x.const,.slice at_ L ct]);have g0:=HT0.out.cell 0 _ rfl;have g1:=HT0.out.cell 1 _ rfl
    go_region_held3 (fun w'=>w'.cell? ⟨wr.heap.size,0,none⟩=some (.int .i64 x.const)∧w'.cell? ⟨wr.heap.size,1,none⟩=some (.slice at_ L ct)) (first | exact ⟨s0,s1⟩ | exact ⟨r0,r1⟩ | go_keep) (first
     | (go_at_call 216
        refine (HC.out _ (by first | exact hA.trans (zB _ _) | exact hA.trans (zB _ _).drew | exact (hA.drew))).mono ?_;rintro e w5 ⟨⟨_,rfl,a5,c5,rfl,hs5⟩,hb5⟩;have r0:w5.cell? ⟨wr.heap.size,0,none⟩=some (.int .i64 x.const):=(hb5.cell (by simp)).trans g0;have r1:w5.cell? ⟨wr.heap.size,1,none⟩=some (.slice at_ L ct):=(hb5.cell (by simp)).trans g1)
     | (refine kEW kA2 rfl (.tmp 12) (.tmp 19) rfl w.heap.size _ _ rfl ((HO.out.below (hA.drew.trans (hb5.mono (by simp)))).alloc _) _ x [.int .i64 x.const,.slice a5 x.terms.length c5] rfl ?ry (kA3 40 (by (simp only [kAJ,kAF,Array.getElem?_push,Array.size_push];simp))) (by omega) (by unfold maxLen;omega) (by have h1:=hb5.size;have h2:=hB.size;simp at h1 ⊢;omega) ?_
        case ry=>exact ⟨_,rfl,a5,c5,rfl,(hs5.below ((zB _ _).alloc (zR _) _)).mono (fun q hq _=>by
         have hq:wr.heap.size+1≤q:=by simpa using hq
         refine ⟨by have:=hB.size;omega,fun e=>?_⟩;have:=(HO.out.block e).2;omega)⟩
        intro v9 w9 hown9 hb9 hk9
        change Kp v0 _ _ w9 at hk9
        have s0:w9.cell? ⟨wr.heap.size,0,none⟩=some (.int .i64 x.const):=kCE (kAE r0 _ ((zB _ _).alloc (zR _) _)) (fun hl=>hk9.block _ hl (fun e=>absurd (HO.out.block e).2 (Nat.lt_irrefl _)));have s1:w9.cell? ⟨wr.heap.size,1,none⟩=some (.slice at_ L ct):=kCE (kAE r1 _ ((zB _ _).alloc (zR _) _)) (fun hl=>hk9.block _ hl (fun e=>absurd (HO.out.block e).2 (Nat.lt_irrefl _)))))
    all_goals
     have HBN:Hid (Below w.heap.size w w9):=hJ ((hB.trans ((hA.drew.trans (hb5.mono (by simp))).mono hB.size)).trans ((((zB _ _).alloc (by have h1:=hb5.size;have h2:=hB.size;simp at h1 ⊢;omega) _)).trans hb9))
     go_wp2_with fail
     go_roundw
     case rel=>exact ⟨k+1,_,by omega,by go_num,rfl,hJ (by rw [HNext.out];exact hown9),HBN.out⟩
     case measure=>simp [intOf];omega
  · have HAll:Hid (l.take k=l):=hJ (zT (by rw [HL.out];omega))
    go_wp2_with fail
    go_ret;exact ⟨⟨_,rfl,by rw [← HAll.out];exact HO.out⟩,hB⟩
def pL:Lin:=⟨0,[⟨nnS,1⟩]⟩
def tL:Lin:=⟨3,[]⟩
theorem pL_valid:kAB pL=true:=by kernel_rfl
theorem tL_valid:kAB tL=true:=by kernel_rfl
theorem pL_vars:([pL]:List Lin).flatMap kAL=[nnS]:=rfl
theorem tL_vars:([tL]:List Lin).flatMap kAL=[]:=rfl
theorem pL_sz:∀ x ∈ ([pL]:List Lin),szL x∧x.terms.length≤1000000:=fun x hx=>by rw [List.mem_singleton] at hx;subst hx;exact ⟨kE0 pL_valid,by decide⟩
theorem tL_sz:∀ x ∈ ([tL]:List Lin),szL x∧x.terms.length≤1000000:=fun x hx=>by rw [List.mem_singleton] at hx;subst hx;exact ⟨kE0 tL_valid,by decide⟩
theorem make_bnd1 (W:World):(Instr.makeSlice 36 (.int .i64 1) (.int .i64 1)).run Tryz.prog W= .ok (.slice (some ⟨W.heap.size,0,none⟩) 1 1) (W.alloc (.cells #[.int .i64 0,.string ⟨#[]⟩,.int .i64 0,.slice none 0 0,.string ⟨#[]⟩,.slice none 0 0,.string ⟨#[]⟩] 42)):=by kernel_rfl
theorem eqn_Match {S T:Blk} {w:World} {a a2:Option Addr} {c c2:Nat} (h:Sl RLin S w a 1 c [pL]) (h2:Sl RLin T w a2 1 c2 [tL]) (E:Env w) :
 Calls Tryz.prog 112 #[.slice a 1 c,.slice a2 1 c2] w fun e w'=>(∃ ab cb,e= .returned (.tuple #[.slice ab 1 cb,.int .i64 0])∧Sl RBnd (fun q=>w.heap.size≤q) w' ab 1 cb [bd3])∧Below w.heap.size w w':=by
 have H:=hJ (h.mono (S':=fun q=>q<w.heap.size) (fun q _ hlt=>hlt));have H2:=hJ (h2.mono (S':=fun q=>q<w.heap.size) (fun q _ hlt=>hlt));have HE:=hJ (fun (W:World) (hW:Below w.heap.size w W)=>E.below hW);have h8:=E.big;have HV:=hJ (eqn_valid [pL] a 1 c w h (fun x hx=>(pL_sz x hx).1) E);rw [show (!([pL]:List Lin).any (fun x=> !kAB x))=true from by rw [List.any_cons,pL_valid];rfl] at HV;clear h h2 E;go_enter func112,ntmps112
 go_wp2_with fail
 refine (HV.out).mono ?_;rintro e w2 ⟨rfl,hb2⟩;have HV2:=hJ (eqn_valid [tL] a2 1 c2 w2 (H2.out.below hb2) (fun x hx=>(tL_sz x hx).1) (HE.out _ hb2));rw [show (!([tL]:List Lin).any (fun x=> !kAB x))=true from by rw [List.any_cons,tL_valid];rfl] at HV2;have HB2:=hJ hb2;clear hb2 HV
 go_wp2_with fail
 refine (HV2.out).mono ?_;rintro e w3 ⟨rfl,hb3⟩;have HB3:=hJ (HB2.out.trans (hb3.mono HB2.out.size));have HG:=hJ (eqn_greatest [pL] a 1 c w3 (H.out.below HB3.out) pL_sz (by decide) (by rw [pL_vars];decide) (by rw [pL_vars];exact nn_no));clear hb3 HV2 HB2
 go_wp2_with fail
 refine (HG.out).mono ?_;rintro e w4 ⟨rfl,hb4⟩;have HB4:=hJ (HB3.out.trans (hb4.mono HB3.out.size));have HVr:=hJ (kEB [pL] a 1 c w4 (H.out.below HB4.out) pL_sz (by decide) (by rw [pL_vars];decide));clear hb4 HG HB3
 go_wp2_with fail
 refine HVr.out.mono ?_;rintro e w5 ⟨⟨ov,m,rfl,hown,hm⟩,hb5⟩;rw [pL_vars] at hm;rw [vars_one hm] at hown;obtain ⟨ao,co,rfl,hos⟩:=hown.sl;have HB5:=hJ (HB4.out.trans (hb5.mono HB4.out.size));have HO5:Hid (Sl RStr (fun k=>w4.heap.size≤k∧k<w5.heap.size) w5 ao 1 co [nnS]):=hJ (hos.mono (fun q hq hlt=>⟨hq.elim False.elim id,hlt⟩));obtain ⟨ob,ooff,rfl,hobl,_⟩:=HO5.out.form 0 (Nat.lt_succ_self 0);have o0:=HO5.out.str 0 (Nat.lt_succ_self 0);replace o0:w5.cell? ⟨ob,ooff,none⟩=some (.string nnS):=o0;have hz5:=HB5.out.size;have hmk:=make_bnd1;clear hown hos hm hb5 HVr HB4
 go_wp2_with fail
 refine wp_loop_rounds 2 ?_;rw [rounds_succ]
 go_wp2_with fail
 obtain ⟨W6,hW6⟩:∃ q,w5.alloc (.cells #[.int .i64 1,.string nnS,.int .i64 0,.slice none 0 0,.string ⟨#[]⟩,.slice none 0 0,.string ⟨#[]⟩] 42)=q:=⟨_,rfl⟩
 have hA6:Below w5.heap.size w5 W6:=by rw [← hW6];exact (zB _ _).alloc (zR _) _
 have HU6:Hid (Bx W6 w5.heap.size 42 [.int .i64 1,.string nnS,.int .i64 0,.slice none 0 0,.string ⟨#[]⟩,.slice none 0 0,.string ⟨#[]⟩]):=hJ (by rw [← hW6];exact Bx.fresh w5 _ _);have HB6:=hJ (HB5.out.trans (hA6.mono HB5.out.size));have HO6:=hJ (HO5.out.below hA6);have hz56:=hA6.size;rw [hW6];clear hW6 hA6 hmk o0;rw [rounds_succ];have hb7s:w5.heap.size<W6.heap.size:=HU6.out.lt;have hA7:Below W6.heap.size W6 (W6.alloc (.cells #[.string ⟨#[]⟩] 9)):=(zB _ _).alloc (zR _) _;have HB7:=hJ (HB6.out.trans (hA7.mono HB6.out.size));have HVt:=hJ (kEB [tL] a2 1 c2 _ (H2.out.below HB7.out) tL_sz (by decide) (by rw [tL_vars];decide));have HC7:=hJ (Bx.fresh W6 9 [.string ⟨#[]⟩]);have HU7:=hJ (HU6.out.below hA7 hb7s);have HO7:=hJ (HO6.out.below hA7);have hz67:=hA7.size
 go_wp2_with fail
 generalize (W6.alloc (.cells #[.string ⟨#[]⟩] 9))=w7 at *;refine HVt.out.mono ?_;rintro e w8 ⟨⟨ov,m8,rfl,hown,hm⟩,hb8⟩;rw [tL_vars] at hm;rw [vars_none hm] at hown;obtain ⟨at8,ct8,rfl,hos⟩:=hown.sl;have hos:Sl RStr (fun k=>False∨w7.heap.size≤k) w8 at8 0 ct8 []:=hos;have HT8:=hJ hos;have HB8:=hJ (HB7.out.trans (hb8.mono HB7.out.size));have HC8:=hJ (HC7.out.below hb8 HC7.out.lt);have HU8:=hJ (HU7.out.below hb8 HU7.out.lt);have HO8:=hJ (HO7.out.below hb8);have hz78:=hb8.size;clear hA7 hown hos hm hb8 HVt HC7 HU7 HO7 HB7 HO6 HU6 HB6 HO5;have hown9:Own RStr 9 (fun _=>False) w8 W6.heap.size (.slice (some ⟨W6.heap.size,0,none⟩) 1 1) [⟨#[]⟩]:=Own.one HC8.out (zR _);have HOw:=hJ hown9;have HTe:Hid (Sl RStr (fun k=>False∧(Value.slice (some ⟨W6.heap.size,0,none⟩) 1 1).ownBlock≠some k) w8 at8 0 ct8 []):=hJ ⟨rfl,HT8.out.cap,HT8.out.max,HT8.out.nil,fun i x hx=>by simp at hx⟩;have hz68:W6.heap.size≤w8.heap.size:=by omega
 clear hown9 HC8 HT8
 go_wp2_with (at_builtin;refine app_sl kEO rfl _ _ rfl W6.heap.size _ _ _ rfl HOw.out at8 0 ct8 rfl HTe.out (by simp) (by unfold maxLen;simp) hz68 ?_;intro v9 w9 hown9 hb9 hk9;obtain ⟨a9,c9,rfl,hs9⟩:=hown9.sl;have HS9:=hJ hs9;have HB9:=hJ hb9;clear hs9 hown9 hk9 hb9)
 have HBw:=hJ (HB8.out.trans (HB9.out.mono (by omega)));have HU9:=hJ (HU8.out.below HB9.out hb7s);have HO9:=hJ (HO8.out.frame (fun q hq hlt=>HB9.out.block q (by have:=hq.2;omega)));have HS9':Hid (Sl RStr (fun k=>False∨W6.heap.size≤k) w9 a9 1 c9 [⟨#[]⟩]):=hJ HS9.out;obtain ⟨b9,off9,rfl,hb9l,_⟩:=HS9'.out.form 0 (Nat.lt_succ_self 0);have n0:=HS9'.out.str 0 (Nat.lt_succ_self 0);replace n0:w9.cell? ⟨b9,off9,none⟩=some (.string ⟨#[]⟩):=n0;obtain ⟨b,off,rfl,hbw,_⟩:=H.out.form 0 (Nat.lt_succ_self 0);obtain ⟨b2,off2,rfl,hbw2,_⟩:=H2.out.form 0 (Nat.lt_succ_self 0);obtain ⟨_,hr,⟨at_,ct,rfl,hts⟩,c0,c1⟩:=(H.out.below HBw.out).lin 0 (Nat.lt_succ_self 0);obtain ⟨_,hr2,⟨at2,ct2,rfl,hts2⟩,d0,d1⟩:=(H2.out.below HBw.out).lin 0 (Nat.lt_succ_self 0);replace c0:w9.cell? ⟨b,off,none⟩=some (.int .i64 0):=c0;replace c1:w9.cell? ⟨b,off+1,none⟩=some (.slice at_ 1 ct):=c1;replace d0:w9.cell? ⟨b2,off2,none⟩=some (.int .i64 3):=d0;have HTs:Hid (Sl kA7 (fun q=>q<w.heap.size) w9 at_ 1 ct [⟨nnS,1⟩]):=hJ hts;have hbl:=kB5 c0;have hbl2:=kB5 d0;have hz9:w8.heap.size≤w9.heap.size:=HB9.out.size;have hU9l:=HU9.out.lt;clear hr hr2 hts hts2 d1 HOw HTe HU8 HO8 HB8 HS9
 go_wp2_with fail
 refine wp_loop_rounds 2 ?_;rw [rounds_succ]
 go_wp2_with fail
 refine wp_loop_rounds 2 ?_;rw [rounds_succ]
 go_wp2_with fail
 obtain ⟨W10,hW10⟩:∃ q,w9.alloc (.cells #[.int .i64 0,.slice at_ 1 ct] 40)=q:=⟨_,rfl⟩
 have hA10:Below w9.heap.size w9 W10:=by rw [← hW10];exact (zB _ _).alloc (zR _) _
 have HP10:Hid (Bx W10 w9.heap.size 40 [.int .i64 0,.slice at_ 1 ct]):=hJ (by rw [← hW10];exact Bx.fresh w9 _ _);rw [hW10];replace d0:=kAE d0 _ hA10;have HA10:=hJ hA10;have p0:=HP10.out.cell 0 _ rfl;have p1:=HP10.out.cell 1 _ rfl;have hp10:=HP10.out.lt;replace hbl2:=kB5 d0;clear hW10 hA10 c0 c1 n0
 go_region
 all_goals go_wp2_with fail
 obtain ⟨W11,hW11⟩:∃ q,(W10.alloc (.cells #[.int .i64 (-3),.slice at_ 1 ct] 40)).drew=q:=⟨_,rfl⟩
 have hA11:Below W10.heap.size W10 W11:=by rw [← hW11];exact ((zB _ _).alloc (zR _) _).drew
 have HQ11:Hid (Bx W11 W10.heap.size 40 [.int .i64 (-3),.slice at_ 1 ct]):=hJ (by rw [← hW11];exact (Bx.fresh W10 _ _).drew);rw [hW11];clear hW11 p0 p1 d0;have hA911:Below w9.heap.size w9 W11:=HA10.out.trans (hA11.mono HA10.out.size);have HB11:=hJ (HBw.out.trans (hA911.mono HBw.out.size));have HT11:=hJ (HTs.out.below hA911);have HU11:=hJ (HU9.out.below hA911 hU9l);have HO11:=hJ (HO9.out.below hA911);have hz911:=hA911.size;have hrq:RLin.rd (fun q=>q<w.heap.size) W11 [.int .i64 (-3),.slice at_ 1 ct] qL:=⟨_,rfl,at_,ct,rfl,HT11.out⟩
 have HL:=hJ (kBX hrq (kE0 kHL) (HE.out _ HB11.out));rw [kHL] at HL;have HRq:=hJ hrq;clear hrq hA11 hA911 HA10 HTs HU9 HO9 HBw HP10;refine (HL.out).mono ?_;rintro e w12 ⟨rfl,hb12⟩;have HQ12:=hJ (HQ11.out.below hb12 HQ11.out.lt);have HB12:=hJ (HB11.out.trans (hb12.mono HB11.out.size));have HR12:=hJ (RLin.below HRq.out hb12);have HU12:=hJ (HU11.out.below hb12 HU11.out.lt);have HO12:=hJ (HO11.out.below hb12);have hz12:=hb12.size;have hzw12:=HB12.out.size;clear hb12 HL HQ11 HB11 HRq HU11 HO11 HT11;have q0:=HQ12.out.cell 0 _ rfl;have q1:=HQ12.out.cell 1 _ rfl
 go_wp2_with (at_builtin;refine kA1 kA2 rfl _ _ rfl w12.heap.size _ _ rfl ((Own.nil RLin 40 (fun q=>q<w.heap.size) w12 w12.heap.size).alloc _) _ qL [.int .i64 (-3),.slice at_ 1 ct] rfl (RLin.below (RLin.mono HR12.out (fun q hq hlt=>⟨hq,fun e=>absurd (show (none:Option Nat)=some q from e) (by simp)⟩)) ((zB _ _).alloc (zR _) _)) (kA3 40 (by (simp only [kAJ,kAF,Array.getElem?_push,Array.size_push];simp))) (by simp) (by unfold maxLen;simp) (by simp) ?_;intro v13 w13 hown13 hb13 hk13)
 have hown13:Own RLin 40 (fun q=>q<w.heap.size) w13 w12.heap.size v13 [qL]:=hown13;have hB13:Below w12.heap.size w12 w13:=Below.trans ((zB _ _).alloc (zR _) _) hb13;obtain ⟨a13,c13,rfl,hs13⟩:=hown13.sl;have hs13:Sl RLin (fun k=>k<w.heap.size∨w12.heap.size≤k) w13 a13 1 c13 [qL]:=hs13;have HB13:=hJ (HB12.out.trans (hB13.mono HB12.out.size));have HU13:=hJ (HU12.out.below hB13 HU12.out.lt);have HO13:=hJ (HO12.out.below hB13);have HSv:=hJ (eqn_Solve hs13 (HE.out _ HB13.out));have hz13:=hB13.size;clear hown13 hb13 hk13 hs13 HQ12 HB12 HR12 HU12 HO12 q0 q1
 go_wp2_with fail
 rw [rounds_succ]
 go_wp2_with fail
 refine HSv.out.mono ?_;rintro e w14 ⟨⟨ab,cb,rfl,hs14⟩,hb14⟩;have hAv:Below w14.heap.size w14 (w14.alloc (.cells #[.slice none 0 0,.int .i64 0] 192)):=(zB _ _).alloc (zR _) _;have hb15:=hb14.trans (hAv.mono hb14.size);have HB15:=hJ (HB13.out.trans (hb15.mono HB13.out.size));have HU15:=hJ (HU13.out.below hb15 HU13.out.lt);have HO15:=hJ (HO13.out.below hb15);have HN15:=hJ (hs14.below hAv);have hz15:=hb15.size;obtain ⟨bb,boff,rfl,hbb,_⟩:=HN15.out.form 0 (Nat.lt_succ_self 0);obtain ⟨_,_,hr,⟨⟨ta,tc,rfl,_⟩,⟨da,dc,rfl,_⟩⟩,e0,e1,e2,e3,e4,e5,e6⟩:=HN15.out.bnd 0 (Nat.lt_succ_self 0);clear hb14 hs14 hAv hb15 HSv HB13 HU13 HO13 hr
 go_upto_if 133 with fail
 generalize (w14.alloc (.cells #[.slice none 0 0,.int .i64 0] 192))=w15 at *;replace e0:w15.cell? ⟨bb,boff,none⟩=some (.int .i64 1):=e0;replace e1:w15.cell? ⟨bb,boff+1,none⟩=some (.string nnS):=e1;replace e2:w15.cell? ⟨bb,boff+2,none⟩=some (.int .i64 3):=e2;replace e3:w15.cell? ⟨bb,boff+3,none⟩=some (.slice ta 0 tc):=e3;replace e4:w15.cell? ⟨bb,boff+4,none⟩=some (.string ⟨#[]⟩):=e4;replace e5:w15.cell? ⟨bb,boff+5,none⟩=some (.slice da 0 dc):=e5;replace e6:w15.cell? ⟨bb,boff+6,none⟩=some (.string ⟨#[]⟩):=e6
 go_wp2_with fail
 refine wp_loop_rounds 2 ?_;rw [rounds_succ];have HSr:=hJ (search_one (w:=w15.alloc (.cells #[.int .i64 1,.string nnS,.int .i64 3,.slice ta 0 tc,.string ⟨#[]⟩,.slice da 0 dc,.string ⟨#[]⟩] 42)) (HO15.out.below ((zB _ _).alloc (zR _) _)))
 go_wp2_with fail
 refine HSr.out.mono ?_;rintro e _ ⟨rfl,rfl⟩;have hA16:Below w15.heap.size w15 (w15.alloc (.cells #[.int .i64 1,.string nnS,.int .i64 3,.slice ta 0 tc,.string ⟨#[]⟩,.slice da 0 dc,.string ⟨#[]⟩] 42)):=(zB _ _).alloc (zR _) _;have HV16:=hJ (Bx.fresh w15 42 [.int .i64 1,.string nnS,.int .i64 3,.slice ta 0 tc,.string ⟨#[]⟩,.slice da 0 dc,.string ⟨#[]⟩]);have HU16:=hJ (HU15.out.below hA16 HU15.out.lt);have HB16:=hJ (HB15.out.trans (hA16.mono HB15.out.size));have hz16:=hA16.size;generalize (w15.alloc (.cells #[.int .i64 1,.string nnS,.int .i64 3,.slice ta 0 tc,.string ⟨#[]⟩,.slice da 0 dc,.string ⟨#[]⟩] 42))=w16 at *;have v2:=HV16.out.cell 2 _ rfl;have u2:=HU16.out.cell 2 _ rfl;have uf:=HU16.out.fz 2;have hul:=HU16.out.lt;clear hA16 HSr e0 e1 e2 e3 e4 e5 e6 HU15 HB15 HN15 HO15
 go_wp2_with fail
 obtain ⟨W17,hW17⟩:∃ q,w16.setCell ⟨w5.heap.size,2,none⟩ (.int .i64 3)=q:=⟨_,rfl⟩
 have HB17:Hid (Below w.heap.size w W17):=hJ (by rw [← hW17];exact HB16.out.setCell (by show w.heap.size≤w5.heap.size;exact hz5) _);have HU17:Hid (Bx W17 w5.heap.size 42 [.int .i64 1,.string nnS,.int .i64 3,.slice none 0 0,.string ⟨#[]⟩,.slice none 0 0,.string ⟨#[]⟩]):=hJ (by rw [← hW17];exact HU16.out.set 2 _);rw [hW17];clear hW17 HV16 HU16 HB16 v2 u2 uf hul;have u0:=HU17.out.cell 0 _ rfl;have u1:=HU17.out.cell 1 _ rfl;have u2:=HU17.out.cell 2 _ rfl;have u3:=HU17.out.cell 3 _ rfl;have u4:=HU17.out.cell 4 _ rfl;have u5:=HU17.out.cell 5 _ rfl;have u6:=HU17.out.cell 6 _ rfl;have hul:=HU17.out.lt;rw [rounds_succ]
 go_wp2_with fail
 rw [rounds_succ]
 go_wp2_with fail
 refine wp_loop_rounds 2 ?_;rw [rounds_succ];have hA18:Below W17.heap.size W17 (W17.alloc (.cells #[.int .i64 1,.string nnS,.int .i64 3,.slice none 0 0,.string ⟨#[]⟩,.slice none 0 0,.string ⟨#[]⟩] 42)):=(zB _ _).alloc (zR _) _;have HB18:=hJ (HB17.out.trans (hA18.mono HB17.out.size));have HU18:=hJ (HU17.out.below hA18 hul);have HLv:=hJ (kCM ⟨3,[]⟩ none 0 0 _ (Sl.empty kA7 All _) (fun t h=>by cases h) (HE.out _ HB18.out));rw [show kAB ⟨3,[]⟩=true from tL_valid] at HLv
 go_wp2_with fail
 generalize (W17.alloc (.cells #[.int .i64 1,.string nnS,.int .i64 3,.slice none 0 0,.string ⟨#[]⟩,.slice none 0 0,.string ⟨#[]⟩] 42))=w18 at *;clear u0 u1 u2 u3 u4 u5 u6;refine (HLv.out).mono ?_;rintro e w19 ⟨rfl,hb19⟩;have HB19:=hJ (HB18.out.trans (hb19.mono HB18.out.size));have HU19:=hJ (HU18.out.below hb19 HU18.out.lt);clear hb19 HLv HU18 HB18 hA18
 go_wp2_with fail
 rw [rounds_succ]
 go_wp2_with fail
 go_returns
 refine ⟨⟨some ⟨w5.heap.size,0,none⟩,1,rfl,?_⟩,HB19.out⟩;exact Sl.single (cs:=[.int .i64 1,.string nnS,.int .i64 3,.slice none 0 0,.string ⟨#[]⟩,.slice none 0 0,.string ⟨#[]⟩]) HU19.out (bd3_rd _ _) hz5
def aS:Str:=⟨#[65]⟩
def iS:Str:=⟨#[105,110,116]⟩
def bA:Bnd:=⟨3,aS,⟨0,[]⟩,⟨⟨#[]⟩,[]⟩,iS⟩
theorem bA_rd (S:Blk) (w:World):RBnd.rd S w [.int .i64 3,.string aS,.int .i64 0,.slice none 0 0,.string ⟨#[]⟩,.slice none 0 0,.string iS] bA:=⟨_,_,rfl,⟨none,0,rfl,Sl.empty _ _ _⟩,⟨none,0,rfl,Sl.empty _ _ _⟩⟩
theorem bA_none:kAW [] 3 aS= -1:=rfl
theorem bA_hit:kAW [bA] 3 aS=0:=by kernel_rfl
theorem mat_put1 {w:World} {bm:Nat} {pt tg:Value} (hM:Bx w bm 92 [.slice none 0 0,pt,tg]) :
 Calls Tryz.prog 111 #[.pointer (some ⟨bm,0,none⟩),.agg #[.int .i64 3,.string aS,.int .i64 0,.slice none 0 0,.string ⟨#[]⟩,.slice none 0 0,.string iS]] w fun e w'=>e= .returned (.bool true)∧(∃ ab cb,Bx w' bm 92 [.slice ab 1 cb,pt,tg]∧Own RBnd 42 (fun _=>False) w' w.heap.size (.slice ab 1 cb) [bA])∧Kb bm w w':=by
 obtain ⟨W1,hW1⟩:∃ q,w.alloc (.cells #[.int .i64 3,.string aS,.int .i64 0,.slice none 0 0,.string ⟨#[]⟩,.slice none 0 0,.string iS] 42)=q:=⟨_,rfl⟩
 have HB1:Hid (Below w.heap.size w W1):=hJ (by rw [← hW1];exact (zB _ _).alloc (zR _) _);have HX:Hid (Bx W1 w.heap.size 42 [.int .i64 3,.string aS,.int .i64 0,.slice none 0 0,.string ⟨#[]⟩,.slice none 0 0,.string iS]):=hJ (by rw [← hW1];exact Bx.fresh w _ _);have hml:=hM.lt;have HM:=hJ (hM.below HB1.out hml);have HF:=hJ (fun t:Later W1=>kFE (S:=All) [] none 0 0 t.w (Sl.empty _ _ _) 3 aS);rw [bA_none] at HF;have m0:=Later.cell (HM.out.cell 0 _ rfl);have x0:=Later.cell (HX.out.cell 0 _ rfl);have x1:=Later.cell (HX.out.cell 1 _ rfl);clear hM;go_enter func111,ntmps111
 go_wp2_with fail
 clear hW1;refine kAC (by kernel_rfl) (by kernel_rfl) ?_
 repeat (go_big_quiet_step (first | fail | exact Later.call (HF.out _)))
 refine wpQuiet_nil ?_;rintro _ ⟨t9,rfl⟩;have HB9:=hJ t9.b;generalize t9.w=w2 at *;have HM2:=hJ (HM.out.below HB9.out HM.out.lt);have HX2:=hJ (HX.out.below HB9.out HX.out.lt);have HB2:=hJ (HB1.out.trans (HB9.out.mono HB1.out.size));clear m0 x0 x1 HF HB9 HM HX;have m0:=HM2.out.cell 0 _ rfl;have mf:=HM2.out.fz 0;have x0:=HX2.out.cell 0 _ rfl;have x1:=HX2.out.cell 1 _ rfl;have x2:=HX2.out.cell 2 _ rfl;have x3:=HX2.out.cell 3 _ rfl;have x4:=HX2.out.cell 4 _ rfl;have x5:=HX2.out.cell 5 _ rfl;have x6:=HX2.out.cell 6 _ rfl;have hml2:=HM2.out.lt;have hxl2:=HX2.out.lt;have hz2:=HB2.out.size
 go_wp2_with fail
 go_region_law (first
  | (refine kEW kCS rfl (.tmp 21) (.tmp 23) rfl w2.heap.size (.slice none 0 0) [] rfl (Own.nil RBnd _ (fun _=>False) _ _) w2.heap.size bA [.int .i64 3,.string aS,.int .i64 0,.slice none 0 0,.string ⟨#[]⟩,.slice none 0 0,.string iS] rfl ?ry ?rc ?rl ?rm ?rb ?_
     case ry=>first | exact bA_rd _ _
     case rc=>first | exact kA3 42 (by (simp only [kAJ,kAF,Array.getElem?_push,Array.size_push];simp))
     case rl=>first | (simp;done)
     case rm=>first | (unfold maxLen;simp;done)
     case rb=>first | (simp;done)
     intro v5 w5 hown5 hb5 hk5;have hB5:Below w2.heap.size w2 w5:=Below.trans (by go_grown) hb5;obtain ⟨a5,m5,c5,rfl⟩:=hown5.shape;have HX5:=HM2.out.below hB5 hml2;have z0:=HX5.cell 0 _ rfl;have z1:=HX5.fz 0))
 all_goals
  obtain ⟨a6,c6,e6,hs6⟩:=hown5.sl;rw [Value.slice.injEq] at e6;obtain ⟨rfl,rfl,rfl⟩:=e6;have ho6:Own RBnd 42 (fun _=>False) w5 w2.heap.size (.slice a5 1 c5) [bA]:=hown5;have HR:Hid ((∃ ab cb,Bx (w5.setCell ⟨bm,0,none⟩ (.slice a5 1 c5)) bm 92 [.slice ab 1 cb,pt,tg]∧Own RBnd 42 (fun _=>False) (w5.setCell ⟨bm,0,none⟩ (.slice a5 1 c5)) w.heap.size (.slice ab 1 cb) [bA])∧Kb bm w (w5.setCell ⟨bm,0,none⟩ (.slice a5 1 c5))):=hJ ⟨⟨a5,c5,HX5.set 0 _,(ho6.set _ (fun _ h=>h.elim) (by show bm<w2.heap.size;omega)).lower (by omega)⟩,((Kb.refl bm w).later (HB2.out.trans (hB5.mono hz2))).set 0 _⟩;clear ho6;clear hown5 hb5 hk5 hB5 HX5 z0 z1
  go_wp2_with fail
  go_ret;exact ⟨rfl,HR.out⟩
theorem empty_same:kG6 ⟨⟨#[]⟩,[]⟩ ⟨⟨#[]⟩,[]⟩=true:=by kernel_rfl
theorem mat_put2 {S:Blk} {w:World} {bm:Nat} {pt tg:Value} {ab:Option Addr} {cb:Nat} (hM:Bx w bm 92 [.slice ab 1 cb,pt,tg]) (hb:Sl RBnd S w ab 1 cb [bA]) :
 Calls Tryz.prog 111 #[.pointer (some ⟨bm,0,none⟩),.agg #[.int .i64 3,.string aS,.int .i64 0,.slice none 0 0,.string ⟨#[]⟩,.slice none 0 0,.string iS]] w fun e w'=>e= .returned (.bool true)∧Below w.heap.size w w':=by
 obtain ⟨W1,hW1⟩:∃ q,w.alloc (.cells #[.int .i64 3,.string aS,.int .i64 0,.slice none 0 0,.string ⟨#[]⟩,.slice none 0 0,.string iS] 42)=q:=⟨_,rfl⟩
 have HB1:Hid (Below w.heap.size w W1):=hJ (by rw [← hW1];exact (zB _ _).alloc (zR _) _);have HX:Hid (Bx W1 w.heap.size 42 [.int .i64 3,.string aS,.int .i64 0,.slice none 0 0,.string ⟨#[]⟩,.slice none 0 0,.string iS]):=hJ (by rw [← hW1];exact Bx.fresh w _ _);have hml:=hM.lt;have HM:=hJ (hM.below HB1.out hml);have HS:=hJ (hb.below HB1.out);have HF:=hJ (fun t:Later W1=>kFE [bA] ab 1 cb t.w (HS.out.below t.b) 3 aS);rw [bA_hit] at HF;have m0:=Later.cell (HM.out.cell 0 _ rfl);have x0:=Later.cell (HX.out.cell 0 _ rfl);have x1:=Later.cell (HX.out.cell 1 _ rfl);clear hM hb;go_enter func111,ntmps111
 go_wp2_with fail
 clear hW1;refine kAC (by kernel_rfl) (by kernel_rfl) ?_
 repeat (go_big_quiet_step (first | fail | exact Later.call (HF.out _)))
 refine wpQuiet_nil ?_;rintro _ ⟨t9,rfl⟩;have HB9:=hJ t9.b;generalize t9.w=w2 at *;have HM2:=hJ (HM.out.below HB9.out HM.out.lt);have HX2:=hJ (HX.out.below HB9.out HX.out.lt);have HB2:=hJ (HB1.out.trans (HB9.out.mono HB1.out.size));have HS2:=hJ (HS.out.below HB9.out);clear m0 x0 x1 HF HB9 HM HX HS;obtain ⟨bb,boff,rfl,hbb,_⟩:=HS2.out.form 0 (Nat.lt_succ_self 0);obtain ⟨_,_,hr,⟨⟨ta,tc,rfl,_⟩,⟨da,dc,rfl,hd⟩⟩,e0,e1,e2,e3,e4,e5,e6⟩:=HS2.out.bnd 0 (Nat.lt_succ_self 0);have hd:Sl RLin S w2 da 0 dc []:=hd;have HQ:=hJ (fun t:Later w2=>shape_Equal (x:=⟨⟨#[]⟩,[]⟩) (y:=⟨⟨#[]⟩,[]⟩) (S:=S) (T:=All) (cs:=[.string ⟨#[]⟩,.slice da 0 dc]) (ds:=[.string ⟨#[]⟩,.slice none 0 0]) (w:=t.w) ⟨_,rfl,da,dc,rfl,hd.below t.b⟩ ⟨_,rfl,none,0,rfl,Sl.empty _ _ _⟩);rw [empty_same] at HQ;have e4:w2.cell? ⟨bb,boff+4,none⟩=some (.string ⟨#[]⟩):=e4;have e5:w2.cell? ⟨bb,boff+5,none⟩=some (.slice da 0 dc):=e5;have e6:w2.cell? ⟨bb,boff+6,none⟩=some (.string iS):=e6;have m0:=Later.cell (HM2.out.cell 0 _ rfl);have x4:=Later.cell (HX2.out.cell 4 _ rfl);have x5:=Later.cell (HX2.out.cell 5 _ rfl);have x6:=Later.cell (HX2.out.cell 6 _ rfl);have y4:=Later.cell e4;have y5:=Later.cell e5;have y6:=Later.cell e6;have q:(iS.toList==iS.toList)=true:=by simp
 clear hr hd e0 e1 e2 e3 e4 e5 e6
 go_wp2_with fail
 refine kAC (by kernel_rfl) (by kernel_rfl) ?_
 repeat (go_big_quiet_step (first | fail | exact Later.call (HQ.out _)))
 refine wpQuiet_nil ?_;rintro _ ⟨t9,rfl⟩
 go_wp2_with fail
 go_ret;exact ⟨rfl,HB2.out.trans (t9.b.mono HB2.out.size)⟩
structure Els {α :Type} (R:Rep α) (S:Blk) (w:World) (a:Option Addr) (n c:Nat) (l:List α):Prop where
 len:l.length=n
 cap:n≤c
 max:c≤maxLen
 nil:a=none→c=0
 at_:∀ (i:Nat) (x: α),l[i]? =some x→∃ b off cs,a=some ⟨b,off,none⟩∧R.rd S w cs x∧∀ j u,cs[j]? =some u→w.cell? ⟨b,off+(i * R.size+j),none⟩=some u
theorem Sl.els {α :Type} {R:Rep α} {S:Blk} {w:World} {a:Option Addr} {n c:Nat} {l:List α} (h:Sl R S w a n c l):Els R S w a n c l:=⟨h.len,h.cap,h.max,h.nil,fun i x hx=>let ⟨b,off,cs,ha,_,hr,hc⟩:=h.at_ i x hx;⟨b,off,cs,ha,hr,hc⟩⟩
theorem Own.els {α :Type} {R:Rep α} {E:TypeId} {S:Blk} {w:World} {base:Nat} {v:Value} {l:List α} (h:Own R E S w base v l):∃ a c,v= .slice a l.length c∧Els R (fun k=>S k∧v.ownBlock≠some k) w a l.length c l:=by
 obtain ⟨css,hl,hrow,hel⟩:=h.row;obtain ⟨a,c,e,hs⟩:=h.sl;refine ⟨a,c,e,hs.len,hs.cap,hs.max,hs.nil,fun i x hx=>?_⟩;obtain ⟨cs,hcs,hr⟩:=hel i x hx;subst e
 have hall:∀ cs ∈ css,cs.length=R.size:=fun cs' hm'=>by
  obtain ⟨i',hi',rfl⟩:=List.getElem_of_mem hm';obtain ⟨cs2,e2,r2⟩:=hel i' (l[i']'(by omega)) (zG (by omega));rw [zG hi'] at e2;cases e2;exact R.len r2
 obtain ⟨_,⟨hv,h0⟩ | ⟨g,cap,cur,hv,hg,hh,hn,hm,hsz,ht⟩⟩:=hrow
 · obtain rfl:l=[]:=zL h0
   simp at hx
 · rw [Value.slice.injEq] at hv
   obtain ⟨rfl,-,rfl⟩:=hv;refine ⟨g,0,cs,rfl,hr,fun j u hu=>?_⟩;have hu2:=kFS hall i cs j u hcs hu
   have hlt:i * R.size+j<l.length * R.size:=by
    have hfl:css.flatten.length=l.length * R.size:=by rw [kBD hall,hl]
    rw [← hfl];rcases zF (i * R.size+j) css.flatten.length with q | q
    · exact q
    · rw [List.getElem?_eq_none q] at hu2;cases hu2
   rw [Nat.zero_add]
   have:cur.toList[i * R.size+j]? =some u:=by
    rw [← ht,List.getElem?_take,if_pos hlt] at hu2;exact hu2
   simp [World.cell?,hh];rw [← Array.getElem?_toList];exact this
theorem Els.below {α :Type} {R:Rep α} {S:Blk} {w w':World} {a:Option Addr} {n c:Nat} {l:List α} (h:Els R S w a n c l) (hb:Below w.heap.size w w'):Els R S w' a n c l :=
 ⟨h.len,h.cap,h.max,h.nil,fun i x hx=>let ⟨b,off,cs,ha,hr,hc⟩:=h.at_ i x hx;⟨b,off,cs,ha,R.below hr hb,fun j u hu=>kCE (hc j u hu) (hb.block b)⟩⟩
theorem Els.mono {α :Type} {R:Rep α} {S S':Blk} {w:World} {a:Option Addr} {n c:Nat} {l:List α} (h:Els R S w a n c l) (hs:∀ k,S k→k<w.heap.size→S' k):Els R S' w a n c l :=
 ⟨h.len,h.cap,h.max,h.nil,fun i x hx=>let ⟨b,off,cs,ha,hr,hc⟩:=h.at_ i x hx;⟨b,off,cs,ha,R.mono hr hs,hc⟩⟩
theorem Els.full {α :Type} {R:Rep α} {S:Blk} {w:World} {a:Option Addr} {n c:Nat} {l:List α} (h:Els R S w a n c l) (m:Nat) (hm:m≤n):Els R S w a m m (l.take m) :=
 ⟨by rw [zN,h.len];omega,zR _,by have:=h.max;have:=h.cap;omega,fun e=>by have:=h.nil e;have:=h.cap;omega,fun i x hx=>by
   rw [List.getElem?_take] at hx
   split at hx
   · exact h.at_ i x hx
   · cases hx⟩
theorem Els.drop {α :Type} {R:Rep α} {S:Blk} {w:World} {b off n c:Nat} {l:List α} (h:Els R S w (some ⟨b,off,none⟩) n c l) (m:Nat) (hm:m≤n):Els R S w (some ⟨b,off+m * R.size,none⟩) (n - m) (c - m) (l.drop m):=by
 refine ⟨by rw [List.length_drop,h.len],by have:=h.cap;omega,by have:=h.max;omega,(by intro h;cases h),fun i x hx=>?_⟩;rw [List.getElem?_drop] at hx;obtain ⟨b',off',cs,ha,hr,hc⟩:=h.at_ (m+i) x hx;cases ha;refine ⟨b,off+m * R.size,cs,rfl,hr,fun j u hu=>?_⟩;have:=hc j u hu;rw [Nat.add_mul] at this
 rwa [show off+m * R.size+(i * R.size+j)=off+(m * R.size+i * R.size+j) by omega]
theorem Els.none {α :Type} {R:Rep α} {S:Blk} {w:World} {a:Option Addr} {c:Nat} (hm:c≤maxLen) (hn:a=none→c=0):Els R S w a 0 c []:=⟨rfl,Nat.zero_le _,hm,hn,fun i x h=>by simp at h⟩
theorem Els.cellsList {α :Type} {R:Rep α} {S:Blk} {w:World} {ad:Addr} {n c:Nat} {l:List α} (h:Els R S w (some ad) n c l) :
 ∃ css:List (List Value),css.length=l.length∧(∀ cs ∈ css,cs.length=R.size)∧(∀ (i:Nat) (x: α),l[i]? =some x→∃ cs,css[i]? =some cs∧R.rd S w cs x)∧(∀ j u,css.flatten[j]? =some u→w.cell? (ad.add j)=some u)∧∀ u ∈ css.flatten,u.oneCell'=true:=by
 have hch:∀ (n:Nat) (q:List α),(∀ (i:Nat) (x: α),q[i]? =some x→∃ cs:List Value,R.rd S w cs x∧∀ j u,cs[j]? =some u→w.cell? (ad.add ((n+i) * R.size+j))=some u) →
  ∃ dss:List (List Value),dss.length=q.length∧(∀ (i:Nat) (x: α),q[i]? =some x→∃ cs,dss[i]? =some cs∧R.rd S w cs x∧∀ j u,cs[j]? =some u→w.cell? (ad.add ((n+i) * R.size+j))=some u):=by
  intro n q
  induction q generalizing n with
  | nil=>exact fun _=>⟨[],rfl,fun i x hx=>by simp at hx⟩
  | cons x q ih =>
    intro hq;obtain ⟨cs,c1,c2⟩:=hq 0 x rfl
    obtain ⟨dss,d1,d2⟩:=ih (n+1) (fun i y hy=>by
     obtain ⟨ds,e1,e2⟩:=hq (i+1) y (by simpa using hy);exact ⟨ds,e1,by rwa [show n+1+i=n+(i+1) by omega]⟩)
    refine ⟨cs :: dss,by simp [d1],fun i y hy=>?_⟩;cases i with
    | zero=>simp at hy;subst hy;exact ⟨cs,rfl,c1,c2⟩
    | succ i =>
      obtain ⟨ds,e1,e2,e3⟩:=d2 i y (by simpa using hy);exact ⟨ds,by simpa using e1,e2,by rwa [show n+1+i=n+(i+1) by omega] at e3⟩
 obtain ⟨dss,hdl,hdd⟩:=hch 0 l (fun i x hx=>by
  obtain ⟨b,off,cs,e,r1,r2⟩:=h.at_ i x hx;cases e;refine ⟨cs,r1,fun j u hu=>?_⟩;rw [add_mk,Nat.zero_add];exact r2 j u hu)
 have hdm:∀ cs ∈ dss,cs.length=R.size:=fun cs hc=>by
  obtain ⟨i,hi',rfl⟩:=List.getElem_of_mem hc;obtain ⟨cs2,e2,r2,_⟩:=hdd i (l[i]'(by omega)) (zG (by omega));rw [zG hi'] at e2;cases e2;exact R.len r2
 refine ⟨dss,hdl,hdm,fun i x hx=>let ⟨cs,e1,e2,_⟩:=hdd i x hx;⟨cs,e1,e2⟩,fun j u hu=>?_,fun u hu=>?_⟩
 · obtain ⟨cs,e1,e2⟩:=flatten_get R.pos hdm j u hu
   have hjl:j / R.size<dss.length:=by
    rcases zF (j / R.size) dss.length with q | q
    · exact q
    · rw [List.getElem?_eq_none q] at e1;cases e1
   obtain ⟨cs2,f1,f2,f3⟩:=hdd (j / R.size) (l[j / R.size]'(by omega)) (zG (by omega));rw [e1] at f1;cases f1;have:=f3 _ u e2
   rwa [Nat.zero_add,Nat.mul_comm,Nat.div_add_mod] at this
 · obtain ⟨cs,hc,hu'⟩:=List.mem_flatten.1 hu
   obtain ⟨i,hi',rfl⟩:=List.getElem_of_mem hc;obtain ⟨cs2,e2,r2,_⟩:=hdd i (l[i]'(by omega)) (zG (by omega));rw [zG hi'] at e2;cases e2;exact R.one r2 u hu'
theorem Els.run_full {α :Type} {R:Rep α} {P:Program} {T E:TypeId} {bytes:Nat} (he:ElemOf P T E R.size bytes) {S:Blk} {w:World} {a:Option Addr} {k:Nat} {l1 l2:List α} (h1:Els R S w a k k l1) (ty:TypeId) {ao:Option Addr} {m c:Nat} (h2:Els R S w ao m c l2) (hm:0<m)
 (hlen:(k+m) * bytes≤140737488355328) (hmax:k+m≤maxLen) :
 ∃ v' w',(Builtin.append_ #[T,T] ty #[.slice a k k,.slice ao m c]).run P w= .ok v' w'∧Own R E S w' w.heap.size v' (l1++l2)∧Below w.heap.size w w':=by
 obtain ⟨i0,z0,hi,hz,hs,hb,hzs⟩:=he.parts;cases a with
 | none =>
   have hk:=h1.nil rfl;subst hk;obtain rfl:l1=[]:=zL h1.len
   obtain ⟨v',w',r1,r2,r3,_⟩:=(Own.nil R E S w w.heap.size).run_app he (l':=l2) ty ao m c h2.len h2.nil (fun i x hx=>by
    obtain ⟨b,off,cs,e,q1,q2⟩:=h2.at_ i x hx;exact ⟨b,off,cs,e,R.mono q1 (fun q hq _=>⟨hq,fun e=>by cases e⟩),q2⟩) (by simpa using hlen) (by simpa using hmax) (zR _)
   exact ⟨v',w',r1,r2,r3⟩
 | some ad =>
   cases ao with
   | none=>have:=h2.nil rfl;have:=h2.cap;omega
   | some ax =>
     obtain ⟨css,c1,c2,c3,c4,c5⟩:=h1.cellsList;obtain ⟨dss,d1,d2,d3,d4,d5⟩:=h2.cellsList;obtain ⟨v',w',r1,r2,r3⟩:=run_append_arg_grows (P:=P) w T ty E i0 z0 R.size bytes he.slice hi hz hs hb hzs R.pos ad k k css.flatten (by rw [kBD c2,c1,h1.len]) c4 ax m c dss.flatten (by rw [kBD d2,d1,h2.len]) d4 (by omega) hmax hlen;have hB:Below w.heap.size w w':=(zB _ _).grown r3 (zR _) (fun k h=>by cases h);obtain ⟨av,cv,hv,_,_,_,hvb⟩:=kC0 r2
     have hfr:∀ q,v'.ownBlock=some q→w.heap.size≤q:=fun q hq=>by
      subst hv;cases av with
      | none=>cases hq
      | some b=>obtain ⟨g,e,hg,_⟩:=hvb b rfl;subst e;cases hq;exact hg
     refine ⟨v',w',r1,⟨css++dss,by simp [c1,d1],?_,fun i x hx=>?_⟩,hB⟩
     · rw [List.flatten_append,zP,h1.len,h2.len]
       exact r2
     · have keep:∀ {cs:List Value} {y: α},R.rd S w cs y→R.rd (fun k=>S k∧v'.ownBlock≠some k) w' cs y:=fun {cs y} hr=>R.below (R.mono hr fun q hq hlt=>⟨hq,fun e=>by have:=hfr q e;omega⟩) hB
       rcases zF i l1.length with q | q
       · rw [List.getElem?_append_left q] at hx
         obtain ⟨cs,e1,e2⟩:=c3 i x hx;exact ⟨cs,by rw [List.getElem?_append_left (by omega)];exact e1,keep e2⟩
       · rw [List.getElem?_append_right q] at hx
         obtain ⟨cs,e1,e2⟩:=d3 (i - l1.length) x hx;exact ⟨cs,by rw [List.getElem?_append_right (by omega),c1];exact e1,keep e2⟩
theorem kDS {α :Type} {R:Rep α} {P:Program} {T E:TypeId} {bytes:Nat} (he:ElemOf P T E R.size bytes) {ops:Array Oper} {o:Oper} {a:Act} {K:Act→World→Prop} {Q:Exit→Act→World→Prop} {w:World} {C:Prop} (hgd:o.guard=none) (s x:Operand)
 (ho:o.op= .call { callee:=.builtin .append,args:=#[s,x],argTypes:=#[T,T] }) {S:Blk} (as_:Option Addr) (k:Nat) (l l':List α) (hs:a.eval s= .slice as_ k k) (hl:Els R S w as_ k k l) (ao:Option Addr) (m c:Nat)
 (hx:a.eval x= .slice ao m c) (hy:Els R S w ao m c l') (hm:0<m) (hlen:(k+m) * bytes≤140737488355328) (hmax:k+m≤maxLen)
 (h:∀ v' w',Own R E S w' w.heap.size v' (l++l')→Below w.heap.size w w'→K (a.put o.dst v') w'):if Region.wanted o (yielded ops a.tmps)=true then Oper.wp P o a w K Q else C:=by
 have hw:Region.wanted o (yielded ops a.tmps)=true:=by simp [Region.wanted,hgd]
 rw [if_pos hw];obtain ⟨v',w',h1,h2,h3⟩:=hl.run_full he o.type hy hm hlen hmax;unfold Oper.wp;simp [execOp,ho,resolve,invoke,builtin,hs,hx,h1,Result.andThen];exact h v' w' h2 h3
theorem kGR {α :Type} {R:Rep α} {P:Program} {T E:TypeId} {bytes:Nat} (he:ElemOf P T E R.size bytes) {ops:Array Oper} {o:Oper} {a:Act} {K:Act→World→Prop} {Q:Exit→Act→World→Prop} {w:World} {C:Prop} (hgd:o.guard=none) (s x:Operand)
 (ho:o.op= .call { callee:=.builtin .append,args:=#[s,x],argTypes:=#[T,T] }) {S:Blk} (base:Nat) (v:Value) (l l':List α) (hs:a.eval s=v) (hown:Own R E S w base v l) (ao:Option Addr) (m c:Nat)
 (hx:a.eval x= .slice ao m c) (hy:Els R (fun k=>S k∧v.ownBlock≠some k) w ao m c l') (hlen:(l.length+m) * bytes≤140737488355328) (hmax:l.length+m≤maxLen) (hbase:base≤w.heap.size)
 (h:∀ v' w',Own R E S w' base v' (l++l')→Below base w w'→Kp v v' w w'→K (a.put o.dst v') w'):if Region.wanted o (yielded ops a.tmps)=true then Oper.wp P o a w K Q else C:=by
 have hw:Region.wanted o (yielded ops a.tmps)=true:=by simp [Region.wanted,hgd]
 rw [if_pos hw];obtain ⟨v',w',h1,h2,h3,h4⟩:=hown.run_app he (l':=l') o.type ao m c hy.len hy.nil hy.at_ hlen hmax hbase;unfold Oper.wp;simp [execOp,ho,resolve,invoke,builtin,hs,hx,h1,Result.andThen];exact h v' w' h2 h3 h4
theorem Own.at1 {α :Type} {R:Rep α} {E:TypeId} {S:Blk} {w:World} {g base:Nat} {cs:List Value} {x: α} (h:w.heap[g]? =some (.cells cs.toArray E (0,0))) (hb:base≤g) (hr:R.rd (fun q=>S q∧q≠g) w cs x):Own R E S w base (.slice (some ⟨g,0,none⟩) 1 1) [x]:=by
 have hl:=R.len hr;refine ⟨[cs],rfl,⟨by simp [hl],.inr ⟨g,1,cs.toArray,rfl,hb,h,zR _,by unfold maxLen;omega,by simp [hl],by simp [← hl]⟩⟩,fun i y hy=>?_⟩;cases i with
 | zero=>simp at hy;subst hy;exact ⟨cs,rfl,R.mono hr fun q hq _=>⟨hq.1,fun e=>hq.2 (by cases e;rfl)⟩⟩
 | succ i=>simp at hy
theorem run_from {P:Program} {T E:TypeId} {size bytes:Nat} (he:ElemOf P T E size bytes) (W:World) (a:Option Addr) (m co k:Nat) (hk:k≤m):(Instr.slice T (.slice a m co) (some (.int .i64 k)) none none).run P W= .ok (.slice (if co=k then a else a.map (·.add (k * size))) (m - k) (co - k)) W:=by
 have h1:(Instr.sliceBounds true m co (some (.int .i64 k)) none none).run P W= .ok (k,m,co) W:=by
  simp [Instr.sliceBounds,Instr.sliceBound,asIntOf,hk]
 obtain ⟨i0,z0,hi,hz,hs,hb,hzs⟩:=he.parts;subst hs;simp only [Instr.slice,run_underlying he.slice,Sem.run_bind,Result.andThen_ok,h1,sizeOf,typeInfo];simp [hi]
theorem Els.take {α :Type} {R:Rep α} {S:Blk} {w:World} {a:Option Addr} {n c:Nat} {l:List α} (h:Els R S w a n c l) (m:Nat) (hm:m≤n):Els R S w a m c (l.take m) :=
 ⟨by rw [zN,h.len];omega,by have:=h.cap;omega,h.max,h.nil,fun i x hx=>by
   rw [List.getElem?_take] at hx
   split at hx
   · exact h.at_ i x hx
   · cases hx⟩
theorem run_from0 {P:Program} {T E:TypeId} {size bytes:Nat} (he:ElemOf P T E size bytes) (W:World) (a:Option Addr) (m c:Nat):(Instr.slice T (.slice a m c) (some (.int .i64 0)) none none).run P W= .ok (.slice a m c) W:=by
 have h:=run_from he W a m c 0 (Nat.zero_le _)
 have e:(if c=0 then a else a.map (·.add (0 * size)))=a:=by
  split
  · rfl
  · cases a with
    | none=>rfl
    | some b=>obtain ⟨b,o,k⟩:=b;cases k <;> simp [Addr.add]
 rw [e] at h;exact h
theorem Own.kb {α :Type} {R:Rep α} {E:TypeId} {S:Blk} {w w':World} {base g:Nat} {v:Value} {l:List α} (h:Own R E S w base v l) (hk:Kb g w w') (hS:∀ q,S q→q≠g) (hg:g<base):Own R E S w' base v l:=h.frame (fun k hlt hh=>hk.block k hlt (hh.elim (hS k) (fun e=>by have:=h.base_le k e;omega))) hk.size
theorem aS_var:kAQ aS=true:=by kernel_rfl
theorem mat_pair1 {S T:Blk} {w:World} {bm:Nat} {ag as_:Option Addr} {cg cs:Nat} (hM:Bx w bm 92 [.slice none 0 0,.slice none 0 0,.slice none 0 0]) (hg:Sl RLin S w ag 1 cg [pL]) (hs:Sl RLin T w as_ 1 cs [tL]) (hS:∀ q,S q→q≠bm) (hT:∀ q,T q→q≠bm) :
 Calls Tryz.prog 53 #[.pointer (some ⟨bm,0,none⟩),.agg #[.string aS,.string ⟨#[]⟩,.slice ag 1 cg],.agg #[.string iS,.string ⟨#[]⟩,.slice as_ 1 cs]] w fun e w'=>e= .returned (.int .i64 0)∧(∃ ab cb ap cp at_ ct,Bx w' bm 92 [.slice ab 1 cb,.slice ap 1 cp,.slice at_ 1 ct]∧Own RBnd 42 (fun _=>False) w' w.heap.size (.slice ab 1 cb) [bA]∧Sl RLin (fun q=>(S q∨w.heap.size≤q)∧q≠bm) w' ap 1 cp [pL]∧Sl RLin (fun q=>(T q∨w.heap.size≤q)∧q≠bm) w' at_ 1 ct [tL])∧Kb bm w w':=by
 have hml:=hM.lt;have HG:=hJ hg;have HS:=hJ hs;have HST:=hJ hS;have HTT:=hJ hT;have HM0:=hJ hM;clear hg hs hM hS hT;obtain ⟨B0,ya,yb,hW0⟩:=box2 w 27 [.string aS,.string ⟨#[]⟩,.slice ag 1 cg] 27 [.string iS,.string ⟨#[]⟩,.slice as_ 1 cs];have xa0:=box0 ya 0 _ rfl;have xa1:=box0 ya 1 _ rfl;have xa2:=box0 ya 2 _ rfl;have xb0:=box0 yb 0 _ rfl;have xb1:=box0 yb 1 _ rfl;have xb2:=box0 yb 2 _ rfl;have bka:Bx _ _ _ _:=ya;have bkb:Bx _ _ _ _:=yb;clear ya yb;have HA:=hJ bka;have HB:=hJ bkb;clear bka bkb;have HE:=hJ (fun W=>kCA aS (by decide) W);rw [aS_var] at HE;go_enter func53,ntmps53
 go_wp2_with fail
 refine ((HE.out _)).mono ?_;rintro e w1 ⟨rfl,hb⟩;have HB1:=hJ (B0.out.trans (hb.mono (by rw [hW0];omega)));have HA1:=hJ (HA.out.below hb HA.out.lt);have HC1:=hJ (HB.out.below hb HB.out.lt);have hz1:=hb.size;rw [hW0] at hz1;clear hb HA HB HE hW0 xa0 xa1 xa2 xb0 xb1 xb2 B0;have HM1:=hJ (HM0.out.below HB1.out hml);have HP:=hJ (mat_put1 HM1.out);have xa0:=HA1.out.cell 0 _ rfl;have xb0:=HC1.out.cell 0 _ rfl
 go_wp2_with fail
 refine (HP.out).mono ?_;rintro e w3 ⟨rfl,⟨ab,cb,hM3,hb3⟩,hk3⟩;have HM3:=hJ hM3;have HB3:=hJ (hb3.lower (base':=w.heap.size) (by omega));have HA3:=hJ (HA1.out.kb hk3 (by omega));have HC3:=hJ (HC1.out.kb hk3 (by omega));have HK3:=hJ (((Kb.refl bm w).later HB1.out).trans hk3);have hz3:=hk3.size;clear hb3 hk3 hM3 xa0 xb0 HP HM1 HA1 HC1 HB1;have HG3:=hJ (HG.out.kb HK3.out HST.out);have HS3:=hJ (HS.out.kb HK3.out HTT.out);have xa0:=HA3.out.cell 0 _ rfl;have xb0:=HC3.out.cell 0 _ rfl;have xa1:=HA3.out.cell 1 _ rfl;have xb1:=HC3.out.cell 1 _ rfl;have xa2:=HA3.out.cell 2 _ rfl;have xb2:=HC3.out.cell 2 _ rfl;have q1:(aS==iS)=false:=by kernel_rfl
 have q2:(aS.toList==iS.toList)=false:=by kernel_rfl
 go_upto_region 6 with fail
 have hml3:=HM3.out.lt;have hal3:=HA3.out.lt;have hcl3:=HC3.out.lt
 go_cut [7,8] (fun v7 v8 W=>∃ p7 p8,v7= .pointer (some ⟨p7,0,none⟩)∧v8= .pointer (some ⟨p8,0,none⟩)∧Hid (Bx W p7 25 [.string ⟨#[]⟩,.slice ag 1 cg])∧Hid (Bx W p8 25 [.string ⟨#[]⟩,.slice as_ 1 cs])∧w3.heap.size≤p7∧w3.heap.size≤p8∧Hid (Below w3.heap.size w3 W))
 case first =>
  clear HST HTT HM0
  go_region
  all_goals go_wp2_with fail
  all_goals go_meet
  · obtain ⟨B,ya,yb,hz⟩:=box2 w3 25 [.string ⟨#[]⟩,.slice ag 1 cg] 25 [.string ⟨#[]⟩,.slice as_ 1 cs]
    exact ⟨_,_,rfl,rfl,hJ ya,hJ yb,by omega,by omega,hJ B.out.drew⟩
  · obtain ⟨B,ya,yb,hz⟩:=box2 w3 25 [.string ⟨#[]⟩,.slice as_ 1 cs] 25 [.string ⟨#[]⟩,.slice ag 1 cg]
    exact ⟨_,_,rfl,rfl,hJ yb,hJ ya,by omega,by omega,hJ B.out.drew⟩
 case rest =>
  obtain ⟨p7,p8,rfl,rfl,H7,H8,h7,h8,HBc⟩:=hcut;have HMc:=hJ (HM3.out.below HBc.out hml3);have HLc:=hJ (HB3.out.below HBc.out);have HKc:=hJ (HK3.out.later HBc.out);have HGc:=hJ (HG3.out.below HBc.out);have HSc:=hJ (HS3.out.below HBc.out);have hzc:=HBc.out.size;clear HM3 HB3 HK3 HG3 HS3 HBc HA3 HC3 xa0 xb0 xa1 xb1 xa2 xb2 hal3 hcl3;have x0:=H7.out.cell 0 _ rfl;have x1:=H7.out.cell 1 _ rfl;have y0:=H8.out.cell 0 _ rfl;have y1:=H8.out.cell 1 _ rfl
  go_upto_region 10 with fail
  have z0:=Later.cell x0;clear x0 x1 y0 y1;refine kAC (by kernel_rfl) (by kernel_rfl) ?_
  repeat (go_big_quiet_step (fail))
  refine wpQuiet_nil ?_;rintro _ ⟨t9,rfl⟩;have HB9:=hJ t9.b;generalize t9.w=w5 at *;have HM5:=hJ (HMc.out.below HB9.out HMc.out.lt);have H75:=hJ (H7.out.below HB9.out H7.out.lt);have H85:=hJ (H8.out.below HB9.out H8.out.lt);have HL5:=hJ (HLc.out.below HB9.out);have HK5:=hJ (HKc.out.later HB9.out);have HG5:=hJ (HGc.out.below HB9.out);have HS5:=hJ (HSc.out.below HB9.out);have hz5:=HB9.out.size;have hm5:=HM5.out.lt;have h75:=H75.out.lt;have h85:=H85.out.lt;clear HMc H7 H8 HLc HKc HGc HSc HB9 z0;have x1:=H75.out.cell 1 _ rfl;have y1:=H85.out.cell 1 _ rfl;have m1:=HM5.out.cell 1 _ rfl;have m2:=HM5.out.cell 2 _ rfl;have f1:=HM5.out.fz 1;have f2:=HM5.out.fz 2
  go_wp2_with fail
  go_cut [] (fun W=>∃ ap cp,Hid (Bx W bm 92 [.slice ab 1 cb,.slice ap 1 cp,.slice none 0 0])∧Hid (Sl RLin (fun q=>(S q∨w.heap.size≤q)∧q≠bm) W ap 1 cp [pL])∧Hid (Kb bm w5 W))
  case first =>
   go_region_law (first
    | (refine step_sl kA2 rfl (.tmp 78) (.tmp 80) rfl w5.heap.size (.slice none 0 0) [] [pL] rfl (Own.nil RLin _ S _ _) ag 1 cg rfl (HG5.out.later (by go_grown) (fun k e=>by simp [Value.ownBlock] at e)) (by simp;done) (by unfold maxLen;simp;done) (by simp;done) ?_
       intro v6 w6 hown6 hb6 hk6;have hB6:Below w5.heap.size w5 w6:=Below.trans (by go_grown) hb6;obtain ⟨a6,m6,c6,rfl⟩:=hown6.shape;have HM6:=HM5.out.below hB6 hm5;have z0:=HM6.cell 1 _ rfl;have z1:=HM6.fz 1))
   all_goals
    obtain ⟨a7,c7,e7,hs7⟩:=hown6.sl;rw [Value.slice.injEq] at e7;obtain ⟨rfl,rfl,rfl⟩:=e7;have hs7:Sl RLin (fun k=>S k∨w5.heap.size≤k) w6 a6 1 c6 [pL]:=hs7;have hs8:=hs7.mono (S':=fun q=>(S q∨w.heap.size≤q)∧q≠bm) (fun q hq _=>hq.elim (fun h=>⟨.inl h,HST.out q h⟩) (fun h=>⟨.inr (by omega),by omega⟩));have HR6:=hJ (And.intro (HM6.set 1 (.slice a6 1 c6)) (And.intro (hs8.frame (w':=w6.setCell ⟨bm,1,none⟩ (.slice a6 1 c6)) fun q hq _=>kAA (fun e=>hq.2 e.symm)) (((Kb.refl bm w5).later hB6).set 1 (.slice a6 1 c6))));clear hs7 hs8 HM6 z0 z1 hk6 hown6 hb6
    go_wp2_with fail
    go_meet
    exact ⟨a6,c6,hJ HR6.out.1,hJ HR6.out.2.1,hJ HR6.out.2.2⟩
  case rest =>
   obtain ⟨ap,cp,HM6,HP6,HK6⟩:=hcut;clear x1 y1 m1 m2 f1 f2;have hz6:=HK6.out.size;have H86:=hJ (H85.out.kb HK6.out (by omega));have HL6:=hJ (HL5.out.kb HK6.out (fun _ h=>h.elim) hml);have HS6:=hJ (HS5.out.kb HK6.out HTT.out);have HK7:=hJ (HK5.out.trans HK6.out);clear HM5 H75 H85 HL5 HG5 HS5 HK5 HK6;have hm6:=HM6.out.lt;have h86:=H86.out.lt;have y1:=H86.out.cell 1 _ rfl;have m2:=HM6.out.cell 2 _ rfl;have f2:=HM6.out.fz 2;have hZ:∀ W:World,(Instr.slice 23 (.slice as_ 1 cs) (some (.int .i64 0)) none none).run Tryz.prog W= .ok (.slice as_ 1 cs) W:=fun W=>run_from0 kA2 W _ _ _
   go_upto_region 13 with fail
   go_cut [] (fun W=>∃ at_ ct,Hid (Bx W bm 92 [.slice ab 1 cb,.slice ap 1 cp,.slice at_ 1 ct])∧Hid (Sl RLin (fun q=>(T q∨w.heap.size≤q)∧q≠bm) W at_ 1 ct [tL])∧Hid (Kb bm wc W))
   case first =>
    go_region_law (first
     | (refine step_sl kA2 rfl (.tmp 88) (.tmp 92) rfl wc.heap.size (.slice none 0 0) [] [tL] rfl (Own.nil RLin _ T _ _) as_ 1 cs rfl (HS6.out.later (by go_grown) (fun k e=>by simp [Value.ownBlock] at e)) (by simp;done) (by unfold maxLen;simp;done) (by simp;done) ?_
        intro v6 w6 hown6 hb6 hk6;have hB6:Below wc.heap.size wc w6:=Below.trans (by go_grown) hb6;obtain ⟨a6,m6,c6,rfl⟩:=hown6.shape;have HM7:=HM6.out.below hB6 hm6;have z0:=HM7.cell 2 _ rfl;have z1:=HM7.fz 2))
    all_goals
     obtain ⟨a7,c7,e7,hs7⟩:=hown6.sl;rw [Value.slice.injEq] at e7;obtain ⟨rfl,rfl,rfl⟩:=e7;have hs7:Sl RLin (fun k=>T k∨wc.heap.size≤k) w6 a6 1 c6 [tL]:=hs7;have hs8:=hs7.mono (S':=fun q=>(T q∨w.heap.size≤q)∧q≠bm) (fun q hq _=>hq.elim (fun h=>⟨.inl h,HTT.out q h⟩) (fun h=>⟨.inr (by omega),by omega⟩));have HR6:=hJ (And.intro (HM7.set 2 (.slice a6 1 c6)) (And.intro (hs8.frame (w':=w6.setCell ⟨bm,2,none⟩ (.slice a6 1 c6)) fun q hq _=>kAA (fun e=>hq.2 e.symm)) (((Kb.refl bm wc).later hB6).set 2 (.slice a6 1 c6))));clear hs7 hs8 HM7 z0 z1 hk6 hown6 hb6
     go_wp2_with fail
     go_meet
     exact ⟨a6,c6,hJ HR6.out.1,hJ HR6.out.2.1,hJ HR6.out.2.2⟩
   case rest =>
    obtain ⟨at_,ct,HM8,HT8,HK8⟩:=hcut;have HX:=hJ (And.intro (HL6.out.kb HK8.out (fun _ h=>h.elim) hml) (And.intro (HP6.out.kb HK8.out fun q hq=>hq.2) (HK7.out.trans HK8.out)));clear y1 m2 f2 hZ
    go_wp2_with fail
    go_ret;exact ⟨rfl,⟨ab,cb,ap,cp,at_,ct,HM8.out,HX.out.1,HX.out.2.1,HT8.out⟩,HX.out.2.2⟩
theorem step_nothing {P:Program} {T E:TypeId} {size bytes:Nat} (he:ElemOf P T E size bytes) {ops:Array Oper} {o:Oper} {a:Act} {K:Act→World→Prop} {Q:Exit→Act→World→Prop} {w:World} {C:Prop} (hgd:o.guard=none) (s x:Operand)
 (ho:o.op= .call { callee:=.builtin .append,args:=#[s,x],argTypes:=#[T,T] }) (b:Option Addr) (n c:Nat) (hle:n≤c) (hs:a.eval s= .slice b n c) (ao:Option Addr) (c':Nat)
 (hx:a.eval x= .slice ao 0 c') (h:K (a.put o.dst (.slice b n c)) w):if Region.wanted o (yielded ops a.tmps)=true then Oper.wp P o a w K Q else C:=by
 have hw:Region.wanted o (yielded ops a.tmps)=true:=by simp [Region.wanted,hgd]
 rw [if_pos hw];obtain ⟨i0,z0,hi,hz,hsz,hb,hzs⟩:=he.parts
 have h1:(Builtin.append_ #[T,T] o.type #[.slice b n c,.slice ao 0 c']).run P w= .ok (.slice b n c) w:=by
  refine run_append_nothing w T T o.type E i0 he.slice hi b n c hle _ ?_;cases ao with
  | none=>exact Src.ofNil _ he.slice c'
  | some ad=>exact Src.ofSlice _ he.slice ad 0 c' [] (by simp) (fun j u e=>by simp at e) (fun u hu=>by cases hu)
 unfold Oper.wp;simp [execOp,ho,resolve,invoke,builtin,hs,hx,h1,Result.andThen];exact h
theorem mat_pair2 {w:World} {bm:Nat} {ag as_ ab ap at_:Option Addr} {cg cs cb cp ct:Nat} (hM:Bx w bm 92 [.slice ab 1 cb,.slice ap 1 cp,.slice at_ 1 ct]) (hB:Sl RBnd (fun q=>q≠bm) w ab 1 cb [bA]) (hp:1≤cp) (ht:1≤ct) :
 Calls Tryz.prog 53 #[.pointer (some ⟨bm,0,none⟩),.agg #[.string aS,.string ⟨#[]⟩,.slice ag 0 cg],.agg #[.string iS,.string ⟨#[]⟩,.slice as_ 0 cs]] w fun e w'=>e= .returned (.int .i64 0)∧Bx w' bm 92 [.slice ab 1 cb,.slice ap 1 cp,.slice at_ 1 ct]∧Kb bm w w':=by
 have hml:=hM.lt;have HM0:=hJ hM;have HB0:=hJ hB;clear hM hB;obtain ⟨B0,ya,yb,hW0⟩:=box2 w 27 [.string aS,.string ⟨#[]⟩,.slice ag 0 cg] 27 [.string iS,.string ⟨#[]⟩,.slice as_ 0 cs];have xa0:=box0 ya 0 _ rfl;have xa1:=box0 ya 1 _ rfl;have xa2:=box0 ya 2 _ rfl;have xb0:=box0 yb 0 _ rfl;have xb1:=box0 yb 1 _ rfl;have xb2:=box0 yb 2 _ rfl;have bka:Bx _ _ _ _:=ya;have bkb:Bx _ _ _ _:=yb;clear ya yb;have HA:=hJ bka;have HB:=hJ bkb;clear bka bkb;have HE:=hJ (fun W=>kCA aS (by decide) W);rw [aS_var] at HE;go_enter func53,ntmps53
 go_wp2_with fail
 refine ((HE.out _)).mono ?_;rintro e w1 ⟨rfl,hb⟩;have HB1:=hJ (B0.out.trans (hb.mono (by rw [hW0];omega)));have HA1:=hJ (HA.out.below hb HA.out.lt);have HC1:=hJ (HB.out.below hb HB.out.lt);have hz1:=hb.size;rw [hW0] at hz1;clear hb HA HB HE hW0 xa0 xa1 xa2 xb0 xb1 xb2 B0;have HM1:=hJ (HM0.out.below HB1.out hml);have HL1:=hJ (HB0.out.below (HB1.out.mono (zR _)));have HP:=hJ (mat_put2 HM1.out HL1.out);have xa0:=HA1.out.cell 0 _ rfl;have xb0:=HC1.out.cell 0 _ rfl
 go_wp2_with fail
 refine (HP.out).mono ?_;rintro e w3 ⟨rfl,hb3⟩;have HM3:=hJ (HM1.out.below hb3 HM1.out.lt);have HA3:=hJ (HA1.out.below hb3 HA1.out.lt);have HC3:=hJ (HC1.out.below hb3 HC1.out.lt);have HK3:=hJ (((Kb.refl bm w).later HB1.out).later hb3);have hz3:=hb3.size;clear hb3 xa0 xb0 HP HM1 HA1 HC1 HB1 HL1;have xa0:=HA3.out.cell 0 _ rfl;have xb0:=HC3.out.cell 0 _ rfl;have xa1:=HA3.out.cell 1 _ rfl;have xb1:=HC3.out.cell 1 _ rfl;have xa2:=HA3.out.cell 2 _ rfl;have xb2:=HC3.out.cell 2 _ rfl;have q1:(aS==iS)=false:=by kernel_rfl
 have q2:(aS.toList==iS.toList)=false:=by kernel_rfl
 go_upto_region 6 with fail
 have hml3:=HM3.out.lt;have hal3:=HA3.out.lt;have hcl3:=HC3.out.lt
 go_cut [7,8] (fun v7 v8 W=>∃ p7 p8,v7= .pointer (some ⟨p7,0,none⟩)∧v8= .pointer (some ⟨p8,0,none⟩)∧Hid (Bx W p7 25 [.string ⟨#[]⟩,.slice ag 0 cg])∧Hid (Bx W p8 25 [.string ⟨#[]⟩,.slice as_ 0 cs])∧w3.heap.size≤p7∧w3.heap.size≤p8∧Hid (Below w3.heap.size w3 W))
 case first =>
  clear HM0 HB0
  go_region
  all_goals go_wp2_with fail
  all_goals go_meet
  · obtain ⟨B,ya,yb,hz⟩:=box2 w3 25 [.string ⟨#[]⟩,.slice ag 0 cg] 25 [.string ⟨#[]⟩,.slice as_ 0 cs]
    exact ⟨_,_,rfl,rfl,hJ ya,hJ yb,by omega,by omega,hJ B.out.drew⟩
  · obtain ⟨B,ya,yb,hz⟩:=box2 w3 25 [.string ⟨#[]⟩,.slice as_ 0 cs] 25 [.string ⟨#[]⟩,.slice ag 0 cg]
    exact ⟨_,_,rfl,rfl,hJ yb,hJ ya,by omega,by omega,hJ B.out.drew⟩
 case rest =>
  obtain ⟨p7,p8,rfl,rfl,H7,H8,h7,h8,HBc⟩:=hcut;have HMc:=hJ (HM3.out.below HBc.out hml3);have HKc:=hJ (HK3.out.later HBc.out);have hzc:=HBc.out.size;clear HM3 HK3 HBc HA3 HC3 xa0 xb0 xa1 xb1 xa2 xb2 hal3 hcl3;have x0:=H7.out.cell 0 _ rfl;have x1:=H7.out.cell 1 _ rfl;have y0:=H8.out.cell 0 _ rfl;have y1:=H8.out.cell 1 _ rfl
  go_upto_region 10 with fail
  have z0:=Later.cell x0;clear x0 x1 y0 y1;refine kAC (by kernel_rfl) (by kernel_rfl) ?_
  repeat (go_big_quiet_step (fail))
  refine wpQuiet_nil ?_;rintro _ ⟨t9,rfl⟩;have HB9:=hJ t9.b;generalize t9.w=w5 at *;have HM5:=hJ (HMc.out.below HB9.out HMc.out.lt);have H75:=hJ (H7.out.below HB9.out H7.out.lt);have H85:=hJ (H8.out.below HB9.out H8.out.lt);have HK5:=hJ (HKc.out.later HB9.out);have hz5:=HB9.out.size;have hm5:=HM5.out.lt;have h75:=H75.out.lt;have h85:=H85.out.lt;clear HMc H7 H8 HKc HB9 z0;have x1:=H75.out.cell 1 _ rfl;have y1:=H85.out.cell 1 _ rfl;have m1:=HM5.out.cell 1 _ rfl;have m2:=HM5.out.cell 2 _ rfl;have f1:=HM5.out.fz 1;have f2:=HM5.out.fz 2
  go_wp2_with fail
  go_cut [] (fun W=>Hid (Bx W bm 92 [.slice ab 1 cb,.slice ap 1 cp,.slice at_ 1 ct])∧Hid (Kb bm w5 W))
  case first =>
   go_region_law (first
    | (refine step_nothing kA2 rfl (.tmp 78) (.tmp 80) rfl ap 1 cp hp rfl ag cg rfl ?_))
   all_goals
    have HR6:=hJ (And.intro (HM5.out.drew.set 1 (.slice ap 1 cp)) ((Kb.refl bm w5).drew.set 1 (.slice ap 1 cp)))
    go_wp2_with fail
    go_meet
    exact ⟨hJ HR6.out.1,hJ HR6.out.2⟩
  case rest =>
   obtain ⟨HM6,HK6⟩:=hcut;clear x1 y1 m1 m2 f1 f2;have hz6:=HK6.out.size;have H86:=hJ (H85.out.kb HK6.out (by omega));have HK7:=hJ (HK5.out.trans HK6.out);clear HM5 H75 H85 HK5 HK6;have hm6:=HM6.out.lt;have h86:=H86.out.lt;have y1:=H86.out.cell 1 _ rfl;have m2:=HM6.out.cell 2 _ rfl;have f2:=HM6.out.fz 2;have hZ:∀ W:World,(Instr.slice 23 (.slice as_ 0 cs) (some (.int .i64 0)) none none).run Tryz.prog W= .ok (.slice as_ 0 cs) W:=fun W=>run_from0 kA2 W _ _ _
   go_upto_region 13 with fail
   go_cut [] (fun W=>Hid (Bx W bm 92 [.slice ab 1 cb,.slice ap 1 cp,.slice at_ 1 ct])∧Hid (Kb bm wc W))
   case first =>
    go_region_law (first
     | (refine step_nothing kA2 rfl (.tmp 88) (.tmp 92) rfl at_ 1 ct ht rfl as_ cs rfl ?_))
    all_goals
     have HR6:=hJ (And.intro (HM6.out.drew.set 2 (.slice at_ 1 ct)) ((Kb.refl bm wc).drew.set 2 (.slice at_ 1 ct)))
     go_wp2_with fail
     go_meet
     exact ⟨hJ HR6.out.1,hJ HR6.out.2⟩
   case rest =>
    obtain ⟨HM8,HK8⟩:=hcut;have HX:=hJ (HK7.out.trans HK8.out);clear y1 m2 f2 hZ
    go_wp2_with fail
    go_ret;exact ⟨rfl,HM8.out,HX.out⟩
def kDG (P:Nat→Bool) (n k:Nat):Nat:=k+((List.range' k (n - k)).takeWhile P).length
theorem kCZ {P:Nat→Bool} {n k:Nat} (h:n≤k):kDG P n k=k:=by
 unfold kDG;rw [show n - k=0 by omega];rfl
theorem kC6 {P:Nat→Bool} {n k:Nat} (h:P k=false):kDG P n k=k:=by
 unfold kDG;cases n - k with
 | zero=>rfl
 | succ m=>rw [List.range'_succ,List.takeWhile_cons,h];rfl
theorem kIT {P:Nat→Bool} {n k:Nat} (hk:k<n) (h:P k=true):kDG P n k=kDG P n (k+1):=by
 unfold kDG;rw [show n - k=(n - (k+1))+1 by omega,List.range'_succ,List.takeWhile_cons,h];simp only [if_true,List.length_cons];omega
theorem kF2 (P:Nat→Bool) (n k:Nat):k≤kDG P n k:=by unfold kDG;omega
theorem kIU {P:Nat→Bool} {n k:Nat} (h:k≤n):kDG P n k≤n:=by
 unfold kDG;have:=List.Sublist.length_le (List.takeWhile_sublist P (l:=List.range' k (n - k)));rw [List.length_range'] at this;omega
theorem runTo_eq {P:Nat→Bool} {n:Nat}:∀ (d k m:Nat),m=k+d→m≤n→(∀ j,k≤j→j<m→P j=true)→(m<n→P m=false)→kDG P n k=m
 | 0,k,m,hm,hn,_,he=>by
   obtain rfl:m=k:=by omega
   rcases zF m n with h | h
   · exact kC6 (he h)
   · exact kCZ h
 | d+1,k,m,hm,hn,hp,he=>by
   rw [kIT (by omega) (hp k (zR _) (by omega))];exact runTo_eq d (k+1) m (by omega) hn (fun j h1 h2=>hp j (by omega) h2) he
theorem runTo_all {P:Nat→Bool} {n:Nat}:∀ (d k j:Nat),n - k≤d→k≤j→j<kDG P n k→P j=true
 | 0,k,j,hd,h1,h=>by rw [kCZ (by omega)] at h;omega
 | d+1,k,j,hd,h1,h=>by
   cases hp:P k with
   | false=>rw [kC6 hp] at h;omega
   | true =>
     rcases zF k n with hk | hk
     · rcases Nat.eq_or_lt_of_le h1 with e | e
       · rw [← e];exact hp
       · rw [kIT hk hp] at h;exact runTo_all d (k+1) j (by omega) e h
     · rw [kCZ hk] at h;omega
theorem kDO (s:Str) {a b:Nat} (hb:b≤s.size):(s.extract a b).size=b - a:=by
 rw [ByteArray.size_extract];omega
theorem sub_bt (s:Str) {a b i:Nat} (hb:b≤s.size) (hi:a+i<b):bt (s.extract a b) i=bt s (a+i):=by
 have h1:i<(s.extract a b).size:=by rw [kDO s hb];omega
 rw [← kD5 _ i h1,← kD5 s (a+i) (by omega)]
 congr 2
 exact ByteArray.getElem_extract h1
theorem sub_sub (s:Str) {a n b c:Nat} (h:a+c≤n):(s.extract a n).extract b c=s.extract (a+b) (a+c):=by
 rw [ByteArray.extract_extract]
 congr 1
 omega
def blk (s:Str) (k:Nat):Nat:=kDG (fun i=>bt s i==32) s.size k
def isAt (s:Str) (k:Nat) (c:Int):Bool:=decide (k<s.size) && bt s k==c
def isTo (s:Str) (k:Nat) (c:Int):Nat:=if isAt s k c then k+1 else k
def decK (d:Str) (i:Nat):Int:=((nb d).take i).foldl (fun n c=>10 * n+(c - 48)) 0
def decV (d:Str):Int:=decK d d.size
theorem decK_next {d:Str} {i:Nat} (h:i<d.size):decK d (i+1)=10 * decK d i+(bt d i - 48):=by
 unfold decK;rw [kAU (by rw [nb_length];exact h),List.foldl_append]
 show 10 * _+((nb d).getD i default - 48)=10 * _+(bt d i - 48)
 rfl
theorem decK_bd {d:Str} (hd:∀ i,i<d.size→kAT (bt d i)=true):∀ i,i≤d.size→0≤decK d i∧decK d i<10 ^ i
 | 0,_=>⟨Int.le_refl _,Int.zero_lt_one⟩
 | i+1,h=>by
   have ih:=decK_bd hd i (by omega);have h1:=of_decide_eq_true (hd i (by omega));rw [decK_next (by omega),Int.pow_succ];omega
theorem decK_lt {d:Str} (hd:∀ i,i<d.size→kAT (bt d i)=true) (h7:d.size≤7) {i:Nat} (h:i≤d.size):0≤decK d i∧decK d i<10000000:=by
 have h1:=decK_bd hd i h;refine ⟨h1.1,?_⟩;have h2:10 ^ i≤10 ^ 7:=Nat.pow_le_pow_right (by decide) (by omega);have h3:((10 ^ i:Nat):Int)=(10:Int) ^ i:=by simp
 have e:(10:Nat) ^ 7=10000000:=by decide
 omega
def longB (d:Str):Bool:=decide (7<d.size) || (decide (1<d.size) && bt d 0==48)
theorem kI0 {v:Str} (h:kAZ v=true):v.toList.isEmpty=false:=by
 cases he:v.toList.isEmpty with
 | false=>rfl
 | true =>
   have h0:=kGE he;rw [kIZ v (.inl h0)] at h;cases h
def kER (out:Lin) (n:Int) (v:Str):Lin:=if v.toList.isEmpty then ⟨out.const+n,out.terms⟩ else ⟨out.const,plus out.terms v n⟩
def loopG (it:Nat→Int × Str × Bool × Nat) (s:Str):Nat→Nat→Int→Lin→Option Lin
 | 0,_,_,_=>none
 | f+1,k,sg,out =>
   if (it (blk s k)).2.2.1 then
    if blk s (it (blk s k)).2.2.2=s.size then some (kER out (sg * (it (blk s k)).1) (it (blk s k)).2.1)
    else if isAt s (blk s (it (blk s k)).2.2.2) 45 then loopG it s f (blk s (it (blk s k)).2.2.2+1) (-1) (kER out (sg * (it (blk s k)).1) (it (blk s k)).2.1)
    else if isAt s (blk s (it (blk s k)).2.2.2) 43 then loopG it s f (blk s (it (blk s k)).2.2.2+1) 1 (kER out (sg * (it (blk s k)).1) (it (blk s k)).2.1)
    else none
   else none
def startK (s:Str):Nat:=if isAt s (blk s 0) 45 then blk s 0+1 else isTo s (blk s 0) 43
def startS (s:Str):Int:=if isAt s (blk s 0) 45 then -1 else 1
def kB9 (it:Nat→Int × Str × Bool × Nat) (s:Str):Option Lin:=loopG it s (s.size+1) (startK s) (startS s) ⟨0,[]⟩
def lossX (o:Option Lin):Lin:=match o with
 | none=>⟨0,[]⟩
 | some x=>limL x
def lossE (o:Option Lin):Int:=match o with
 | none=>6
 | some x=>limE x
structure ItemOk (s:Str) (k:Nat) (r:Int × Str × Bool × Nat):Prop where
 lo:0≤r.1
 hi:r.1<10000000
 name:r.2.1.toList.isEmpty=false→kAZ r.2.1=true
 le:r.2.2.2≤s.size
 ge:k≤r.2.2.2
theorem blk_le {s:Str} {k:Nat} (h:k≤s.size):blk s k≤s.size:=kIU h
theorem kG5 {s:Str} {k:Nat} {c:Int} (h:isAt s k c=true):k<s.size:=by
 unfold isAt at h;rw [zA] at h;exact of_decide_eq_true h.1
structure AccOk (m:Nat) (x:Lin):Prop where
 srt:Srt x.terms
 nz:Nz x.terms
 len:x.terms.length≤m
 bd:Bd (10000000 * (m:Int)) x.terms
 const: -(10000000 * (m:Int))≤x.const∧x.const≤10000000 * (m:Int)
 names:Named x.terms
theorem AccOk.zero (m:Nat):AccOk m ⟨0,[]⟩:=⟨List.Pairwise.nil,fun t h=>(by cases h),Nat.zero_le _,fun t h=>(by cases h),⟨by show -(10000000 * (m:Int))≤0;omega,by show (0:Int)≤_;omega⟩,fun t h=>(by cases h)⟩
theorem Bd.le {n m:Int} {l:List Coef} (h:Bd n l) (hnm:n≤m):Bd m l:=fun t ht=>by have:=h t ht;omega
theorem AccOk.mono {m m':Nat} {x:Lin} (h:AccOk m x) (hm:m≤m'):AccOk m' x:=⟨h.srt,h.nz,by have:=h.len;omega,h.bd.le (by omega),by have:=h.const;omega,h.names⟩
theorem AccOk.next {s:Str} {m:Nat} {x:Lin} (h:AccOk m x) {r:Int × Str × Bool × Nat} {k:Nat} (hr:ItemOk s k r) {sg:Int} (hsg:sg=1∨sg= -1):AccOk (m+1) (kER x (sg * r.1) r.2.1):=by
 have h0:=hr.lo;have h1:=hr.hi;have hb: -10000000≤sg * r.1∧sg * r.1≤10000000:=by rcases hsg with rfl | rfl <;> omega
 unfold kER
 split
 · exact ⟨h.srt,h.nz,by have:=h.len;show x.terms.length≤_;omega,h.bd.le (by omega),by have:=h.const;show _≤x.const+_∧x.const+_≤_;omega,h.names⟩
 · rename_i he
   have hb2:=plus_bd h.srt r.2.1 (sg * r.1) h.bd hb (by omega) (by decide);exact ⟨kHM h.srt _ _,plus_nz _ _ _,by have:=h.len;have:=plus_len h.srt r.2.1 (sg * r.1);show (plus _ _ _).length≤_;omega,hb2.le (by omega),by have:=h.const;show _≤x.const∧x.const≤_;omega,plus_names h.srt h.names (hr.name (by simpa using he)) _⟩
theorem kIP (s:Str) (k:Nat):(s.extract k s.size).data.toList=s.data.toList.drop k:=by
 rw [ByteArray.data_extract,Array.toList_extract,List.extract_eq_take_drop,zT (by rw [List.length_drop,Array.length_toList];first | done | exact zR _)]
theorem mk_eq {l:List UInt8} {t:Str} (h:l=t.data.toList):(⟨l.toArray⟩:Str)=t:=by
 rw [h]
theorem bt_list (s:Str) {k:Nat} (h:k<s.size):∃ c r,s.data.toList.drop k=c :: r∧bt s k=(c.toNat:Int)∧r=s.data.toList.drop (k+1):=by
 obtain ⟨c,h1,h2⟩:=at_bt s k h;have hl:k<s.data.toList.length:=by rw [Array.length_toList];exact h
 refine ⟨c,s.data.toList.drop (k+1),?_,h2,rfl⟩;rw [List.drop_eq_getElem_cons hl];rw [zG hl] at h1
 injection h1 with h1
 rw [h1]
theorem trim_sub (s:Str):∀ (d k:Nat),s.size - k≤d→Lib.trimLeftB (s.data.toList.drop k) 32=s.data.toList.drop (blk s k)
 | 0,k,hd=>by
   have h1:blk s k=k:=kCZ (by omega);rw [h1,List.drop_of_length_le (by rw [Array.length_toList];show s.size≤k;omega)];rfl
 | d+1,k,hd=>by
   rcases zF k s.size with hk | hk
   · obtain ⟨c,r,h1,h2,h3⟩:=bt_list s hk
     rw [h1];unfold Lib.trimLeftB;rw [List.dropWhile_cons];by_cases hc:c=32
     · rw [if_pos (by rw [hc];decide),h3]
       have h4:blk s k=blk s (k+1):=kIT hk (by rw [h2,hc];decide);rw [h4];exact trim_sub s d (k+1) (by omega)
     · rw [if_neg (by simpa using hc)]
       have h4:blk s k=k:=kC6 (by
        rw [h2,beq_eq_false_iff_ne];intro e;apply hc;have:c.toNat=32:=by omega
        exact UInt8.toNat_inj.1 this)
       rw [h4,h1]
   · have h1:blk s k=k:=kCZ hk
     rw [h1,List.drop_of_length_le (by rw [Array.length_toList];exact hk)];rfl
def kEE (s:Str) (k p:Nat) (num:Int) (bm:Nat) (w:World):Prop:=Bx w p 135 [.string (s.extract k s.size),.int .i64 num,.map (some bm)]
def kB0 (c:Int):Bool:=kBA c || (c==95 || kAT c)
theorem kEZ (c:Int) (w:World):Calls Tryz.prog 159 #[.int .u8 c] w fun e w'=>e= .returned (.bool (kAT c))∧w=w':=by
 unfold kAT;by_cases h0:48≤c <;> by_cases h1:c≤57
 all_goals
  go_enter func159,ntmps159
  go_wp2_with fail
  go_ret;exact ⟨by simp [h0,h1],rfl⟩
theorem kI1 (c:Int) (w:World):Calls Tryz.prog 164 #[.int .u8 c] w fun e w'=>e= .returned (.bool (kB0 c))∧w=w':=by
 have HP:Hid (kB0 c=(decide (97≤c∧c≤122) || (c==95 || kAT c))):=hJ rfl;by_cases h0:97≤c
 · by_cases h1:c≤122
   · have HF:Hid (kB0 c=true):=hJ (by rw [HP.out,decide_eq_true ⟨h0,h1⟩];rfl)
     go_enter func164,ntmps164
     go_wp2_with fail
     go_ret;exact ⟨by rw [HF.out];rfl,rfl⟩
   · by_cases h95:(c==95)=true
     · have:=beq_iff_eq.1 h95;omega
     · have h95:(c==95)=false:=by simpa using h95
       have HF:Hid (kB0 c=kAT c):=hJ (by rw [HP.out,decide_eq_false (by omega),h95];rfl);go_enter func164,ntmps164
       go_wp2_with fail
       refine (kEZ _ _).mono ?_;rintro e _ ⟨rfl,rfl⟩
       go_wp2_with fail
       go_ret;exact ⟨by rw [HF.out];rfl,rfl⟩
 · by_cases h95:(c==95)=true
   · have HF:Hid (kB0 c=true):=hJ (by rw [HP.out,h95,Bool.true_or,Bool.or_true])
     go_enter func164,ntmps164
     go_wp2_with fail
     go_ret;exact ⟨by rw [HF.out];rfl,rfl⟩
   · have h95:(c==95)=false:=by simpa using h95
     have HF:Hid (kB0 c=kAT c):=hJ (by rw [HP.out,decide_eq_false (by omega),h95];rfl);go_enter func164,ntmps164
     go_wp2_with fail
     refine (kEZ _ _).mono ?_;rintro e _ ⟨rfl,rfl⟩
     go_wp2_with fail
     go_ret;exact ⟨by rw [HF.out];rfl,rfl⟩
theorem kHK (s:Str) (k p:Nat) (num:Int) (bm:Nat) (w:World) (hb:kEE s k p num bm w) :
 Calls Tryz.prog 103 #[.pointer (some ⟨p,0,none⟩)] w fun e w'=>e= .returned (.tuple #[])∧kEE s (blk s k) p num bm w'∧Kb p w w':=by
 have HB:=hJ hb;have z0:=hb.cell 0 _ rfl;have f0:=hb.fz 0;have HT:Hid ((⟨(Lib.trimLeftB (s.extract k s.size).data.toList 32).toArray⟩:Str)=s.extract (blk s k) s.size):=hJ (mk_eq (by rw [kIP,kIP];exact trim_sub s _ k (zR _)));have HC:=hJ (Tryz.strings_TrimLeft_one (s.extract k s.size) 32 (by decide) w);clear hb;generalize (⟨(Lib.trimLeftB (s.extract k s.size).data.toList 32).toArray⟩:Str)=u at *;generalize hr:s.extract k s.size=r at *;go_enter func103,ntmps103
 go_wp2_with fail
 refine HC.out.mono ?_;rintro e w1 ⟨rfl,rfl⟩
 go_wp2_with fail
 go_end0;exact ⟨rfl,by unfold kEE at *;rw [← HT.out];exact HB.out.set 0 _,(Kb.refl p _).set _ _⟩
theorem rdr_take (g:FuncId) (hen:Ent1 g) (P:Int→Bool) (hg:∀ (c:Int) (W:World),Calls Tryz.prog g #[.int .u8 c] W fun e w'=>e= .returned (.bool (P c))∧W=w') (s:Str) (hs:s.size≤1000000) (k p:Nat) (num:Int) (bm:Nat) (w:World) (hb:kEE s k p num bm w) (hk:k≤s.size) :
 Calls Tryz.prog 226 #[.pointer (some ⟨p,0,none⟩),.func (.func g) #[] #[]] w fun e w'=>e= .returned (.string (s.extract k (kDG (fun i=>P (bt s i)) s.size k)))∧kEE s (kDG (fun i=>P (bt s i)) s.size k) p num bm w'∧Kb p w w':=by
 have HB:=hJ hb;have HG:=hJ hg;have z0:=hb.cell 0 _ rfl;have f0:=hb.fz 0;have hsz:(s.extract k s.size).size=s.size - k:=kDO s (zR _);have HY:Hid (∀ j,k+j<s.size→P (bt s (k+j))=true→kDG (fun i=>P (bt s i)) s.size (k+j)=kDG (fun i=>P (bt s i)) s.size (k+(j+1))):=hJ (fun j hj h=>kIT hj h);have HNo:Hid (∀ j,P (bt s (k+j))=false→kDG (fun i=>P (bt s i)) s.size (k+j)=k+j):=hJ (fun j h=>kC6 h);have HSt:Hid (∀ j,s.size≤k+j→kDG (fun i=>P (bt s i)) s.size (k+j)=k+j):=hJ (fun j h=>kCZ h);have HBt:Hid (∀ j,j<s.size - k→bt (s.extract k s.size) j=bt s (k+j)):=hJ (fun j hj=>sub_bt s (zR _) (by omega));have HE1:Hid (∀ j,j≤s.size - k→(s.extract k s.size).extract 0 j=s.extract k (k+j)):=hJ (fun j hj=>sub_sub s (by omega));have HE2:Hid (∀ j,j≤s.size - k→(s.extract k s.size).extract j (s.size - k)=s.extract (k+j) s.size):=hJ (fun j hj=>by rw [sub_sub s (by omega),show k+(s.size - k)=s.size by omega]);have HR:Hid (kDG (fun i=>P (bt s i)) s.size (k+0)=kDG (fun i=>P (bt s i)) s.size k):=hJ rfl;clear hb hg;generalize hrt:kDG (fun i=>P (bt s i)) s.size=rt at *;have HU:Hid (kEE s k p num bm w=Bx w p 135 [.string (s.extract k s.size),.int .i64 num,.map (some bm)]):=hJ rfl;generalize s.extract k s.size=r at *;clear hrt;go_enter func226,ntmps226
 go_wp2_with fail
 go_loopw [5] (fun i wr=>∃ j:Nat,j≤s.size - k∧i= .int .i64 j∧Hid (rt (k+j)=rt k)∧w=wr) (fun i _=>s.size - k - (intOf i).toNat)
 case atStart=>exact ⟨0,Nat.zero_le _,rfl,HR,rfl⟩
 case round =>
  obtain ⟨j,hj,rfl,HE,rfl⟩:=hrel;by_cases hlt:j<s.size - k
  · have q1:decide ((j:Int)<(r.size:Int))=true:=decide_eq_true (by omega)
    have g0:=kD5 r j (by omega);have hbt:=HBt.out j hlt;have HYj:=hJ (HY.out j (by omega));have HNj:=hJ (HNo.out j);rw [hbt] at g0;generalize bt s (k+j)=c at *;have hC:=fun W=>HG.out c W
    by_cases hc:P c=true
    · have HE3:=hJ ((HYj.out hc).symm.trans HE.out)
      simp only [hc] at hC;have HC:=hJ hC;clear hC hbt
      go_wp2_with (go_at_fn g;refine (HC.out _).mono ?_;rintro e w' ⟨rfl,rfl⟩)
      go_roundw
      case rel=>exact ⟨j+1,by omega,by go_num,HE3,trivial⟩
      case measure=>simp [intOf];omega
    · have hc:P c=false:=by simpa using hc
      have HF:=hJ ((HNj.out hc).symm.trans HE.out);simp only [hc] at hC;have HC:=hJ hC;clear hC hbt
      go_wp2_with (go_at_fn g;refine (HC.out _).mono ?_;rintro e w' ⟨rfl,rfl⟩)
      have HX1:=hJ (HE1.out j hj);have HX2:=hJ (HE2.out j hj);have hjr:(j:Int)≤(r.size:Int):=by omega
      clear HY HNo HSt HBt HE1 HE2 HR HG
      go_wp2_with fail
      go_ret;refine ⟨by rw [← HF.out,← HX1.out];rfl,?_,(Kb.refl p _).set _ _⟩;have h1:=HB.out;unfold kEE at *;rw [← HF.out,← HX2.out];exact Bx.set (cs:=[.string r,.int .i64 num,.map (some bm)]) (by rw [← HU.out];exact h1) 0 _
  · have q1:decide ((j:Int)<(r.size:Int))=false:=decide_eq_false (by omega)
    have HF:=hJ ((HSt.out j (by omega)).symm.trans HE.out);have HX1:=hJ (HE1.out j hj);have HX2:=hJ (HE2.out j hj);have hjr:(j:Int)≤(r.size:Int):=by omega
    clear HY HNo HSt HBt HE1 HE2 HR HG
    go_wp2_with fail
    go_ret;refine ⟨by rw [← HF.out,← HX1.out];rfl,?_,(Kb.refl p _).set _ _⟩;have h1:=HB.out;unfold kEE at *;rw [← HF.out,← HX2.out];exact Bx.set (cs:=[.string r,.int .i64 num,.map (some bm)]) (by rw [← HU.out];exact h1) 0 _
def kF0 (s:Str) (k:Nat):Nat:=if isAt s k 43 then k+1 else isTo s k 45
def kH6 (s:Str) (k:Nat):Int:=if isAt s k 43 then 1 else if isAt s k 45 then -1 else 1
def signB (s:Str) (k:Nat):Bool:=isAt s k 43 || isAt s k 45
theorem pre_one (s:Str) (k:Nat) (c:UInt8):Lib.hasPrefix (s.extract k s.size).data.toList [c]=isAt s k (c.toNat:Int):=by
 rw [kIP];unfold isAt Lib.hasPrefix;rcases zF k s.size with hk | hk
 · obtain ⟨d,r,h1,h2,_⟩:=bt_list s hk
   rw [h1,h2,decide_eq_true hk,Bool.true_and,List.isPrefixOf_cons_cons];simp only [List.isPrefixOf_nil_left,Bool.and_true];rw [Bool.eq_iff_iff,beq_iff_eq,beq_iff_eq]
   constructor
   · intro e;rw [e]
   · intro e;exact UInt8.toNat_inj.1 (by omega)
 · rw [List.drop_of_length_le (by rw [Array.length_toList];exact hk),decide_eq_false (by omega)];rfl
theorem rdr_sign (s:Str) (hs:s.size≤1000000) (k p:Nat) (num:Int) (bm:Nat) (w:World) (hb:kEE s k p num bm w) (hk:k≤s.size) :
 Calls Tryz.prog 104 #[.pointer (some ⟨p,0,none⟩)] w fun e w'=>e= .returned (.tuple #[.int .i64 (kH6 s k),.bool (signB s k)])∧kEE s (kF0 s k) p num bm w'∧Kb p w w':=by
 have HB:=hJ hb;have z0:=hb.cell 0 _ rfl;have f0:=hb.fz 0;have hsz:(s.extract k s.size).size=s.size - k:=kDO s (zR _);have HP:=hJ (Tryz.strings_HasPrefix (s.extract k s.size) ⟨#[43]⟩ w);have HM:=hJ (Tryz.strings_HasPrefix (s.extract k s.size) ⟨#[45]⟩ w);have HQ:=hJ (pre_one s k 43);have HN:=hJ (pre_one s k 45);have HE2:Hid (k<s.size→(s.extract k s.size).extract 1 (s.size - k)=s.extract (k+1) s.size):=hJ (fun hj=>by rw [sub_sub s (by omega),show k+(s.size - k)=s.size by omega]);have HU:Hid (kEE s k p num bm w=Bx w p 135 [.string (s.extract k s.size),.int .i64 num,.map (some bm)]):=hJ rfl;clear hb;have hP2:=HP.out;have hM2:=HM.out
 change Calls _ _ _ _ fun e w'=>e= .returned (.bool (Lib.hasPrefix _ [43]))∧_ at hP2
 change Calls _ _ _ _ fun e w'=>e= .returned (.bool (Lib.hasPrefix _ [45]))∧_ at hM2
 rw [HQ.out] at hP2;rw [HN.out] at hM2;have HP:=hJ hP2;have HM:=hJ hM2;clear HQ HN hP2 hM2;generalize s.extract k s.size=r at *;have hi0:∀ W,(Instr.index 178 (.agg #[.string ⟨#[43]⟩,.string ⟨#[45]⟩]) (.int .i64 0)).run Tryz.prog W= .ok (.string ⟨#[43]⟩) W:=fun W=>by kernel_rfl
 have hi1:∀ W,(Instr.index 178 (.agg #[.string ⟨#[43]⟩,.string ⟨#[45]⟩]) (.int .i64 1)).run Tryz.prog W= .ok (.string ⟨#[45]⟩) W:=fun W=>by kernel_rfl
 go_enter func104,ntmps104;cases hp:isAt s k 43 with
 | true =>
   rw [show isAt s k ((43:UInt8).toNat:Int)=true from hp] at HP
   go_wp2_with fail
   go_loopw [7] (fun i wr=>i= .int .i64 0∧w=wr) (fun _ _=>0)
   case atStart=>exact ⟨rfl,rfl⟩
   case round =>
    obtain ⟨rfl,rfl⟩:=hrel
    go_wp2_with fail
    refine HP.out.mono ?_;rintro e w1 ⟨rfl,rfl⟩;have hlt:k<s.size:=kG5 hp;have hjr:(1:Int)≤(r.size:Int):=by omega
    have HX2:=hJ (HE2.out hlt)
    go_wp2_with fail
    refine bodyPost_ret (v:=.tuple #[.int .i64 1,.bool true]) (by simp [results,results104,go_sem]) rfl ?_;refine ⟨?_,?_,(Kb.refl p _).set _ _⟩
    · unfold kH6 signB
      simp [hp]
    · have h1:=HB.out
      have e1:kF0 s k=k+1:=by unfold kF0 isTo;simp [hp]
      rw [e1];unfold kEE at *;rw [← HX2.out];exact Bx.set (cs:=[.string r,.int .i64 num,.map (some bm)]) (by rw [← HU.out];exact h1) 0 _
 | false =>
   rw [show isAt s k ((43:UInt8).toNat:Int)=false from hp] at HP;cases hm:isAt s k 45 with
   | true =>
     rw [show isAt s k ((45:UInt8).toNat:Int)=true from hm] at HM
     go_wp2_with fail
     go_loopw [7] (fun i wr=>(i= .int .i64 0∨i= .int .i64 1)∧w=wr) (fun i _=>1 - (intOf i).toNat)
     case atStart=>exact ⟨.inl rfl,rfl⟩
     case round =>
      obtain ⟨rfl | rfl,rfl⟩:=hrel
      · go_wp2_with fail
        refine HP.out.mono ?_;rintro e w1 ⟨rfl,rfl⟩
        go_wp2_with fail
        go_roundw
        case rel=>exact ⟨.inr rfl,trivial⟩
        case measure=>simp [intOf]
      · go_wp2_with fail
        refine HM.out.mono ?_;rintro e w1 ⟨rfl,rfl⟩;have hlt:k<s.size:=kG5 hm;have hjr:(1:Int)≤(r.size:Int):=by omega
        have HX2:=hJ (HE2.out hlt)
        go_wp2_with fail
        refine bodyPost_ret (v:=.tuple #[.int .i64 (-1),.bool true]) (by simp [results,results104,go_sem]) rfl ?_;refine ⟨?_,?_,(Kb.refl p _).set _ _⟩
        · unfold kH6 signB
          simp [hp,hm]
        · have h1:=HB.out
          have e1:kF0 s k=k+1:=by unfold kF0 isTo;simp [hp,hm]
          rw [e1];unfold kEE at *;rw [← HX2.out];exact Bx.set (cs:=[.string r,.int .i64 num,.map (some bm)]) (by rw [← HU.out];exact h1) 0 _
   | false =>
     rw [show isAt s k ((45:UInt8).toNat:Int)=false from hm] at HM
     go_wp2_with fail
     go_loopw [7] (fun i wr=>(i= .int .i64 0∨i= .int .i64 1∨i= .int .i64 2)∧w=wr) (fun i _=>2 - (intOf i).toNat)
     case atStart=>exact ⟨.inl rfl,rfl⟩
     case round =>
      obtain ⟨rfl | rfl | rfl,rfl⟩:=hrel
      · go_wp2_with fail
        refine HP.out.mono ?_;rintro e w1 ⟨rfl,rfl⟩
        go_wp2_with fail
        go_roundw
        case rel=>exact ⟨.inr (.inl rfl),trivial⟩
        case measure=>simp [intOf]
      · go_wp2_with fail
        refine HM.out.mono ?_;rintro e w1 ⟨rfl,rfl⟩
        go_wp2_with fail
        go_roundw
        case rel=>exact ⟨.inr (.inr rfl),trivial⟩
        case measure=>simp [intOf]
      · go_wp2_with fail
        refine bodyPost_ret (v:=.tuple #[.int .i64 1,.bool false]) (by simp [results,results104,go_sem]) rfl ?_;refine ⟨?_,?_,Kb.refl p _⟩
        · unfold kH6 signB
          simp [hp,hm]
        · have e1:kF0 s k=k:=by unfold kF0 isTo;simp [hp,hm]
          rw [e1];exact HB.out
def runL (s:Str) (k:Nat):Nat:=kDG (fun i=>kB0 (bt s i)) s.size k
def runD (s:Str) (k:Nat):Nat:=kDG (fun i=>kAT (bt s i)) s.size k
theorem kH7 {s:Str} {k:Nat} (hk:k≤s.size):∀ i,i<(s.extract k (runD s k)).size→kAT (bt (s.extract k (runD s k)) i)=true:=fun i hi=>by
 have hes:runD s k≤s.size:=kIU hk;rw [kDO s hes] at hi;rw [sub_bt s hes (by omega)];exact runTo_all (P:=fun i=>kAT (bt s i)) (n:=s.size) (s.size - k) k (k+i) (zR _) (by omega) (by show k+i<runD s k;omega)
theorem dec_val:∀ (l:List UInt8) (a:Nat),(∀ c ∈ l,48≤c.toNat∧c.toNat≤57)→∃ n:Nat,Lib.decFrom a l=some n∧(l.map fun c=>(c.toNat:Int)).foldl (fun n c=>10 * n+(c - 48)) (a:Int)=n
 | [],a,_=>⟨a,rfl,rfl⟩
 | c :: r,a,h=>by
   have hc:=h c (zM ..);obtain ⟨n,h1,h2⟩:=dec_val r (a * 10+(c.toNat - 48)) (fun x hx=>h x (zO _ hx));refine ⟨n,?_,?_⟩
   · unfold Lib.decFrom
     unfold Lib.digitVal;rw [if_pos hc];exact h1
   · rw [← h2]
     simp only [List.map_cons,List.foldl_cons]
     congr 1
     omega
theorem atoi_digits {d:Str} (hd:∀ i,i<d.size→kAT (bt d i)=true) (h1:1≤d.size) (h2:d.size≤18):Lib.atoiAll d.data.toList= .ok (decV d):=by
 have hm:∀ c ∈ d.data.toList,48≤c.toNat∧c.toNat≤57:=fun c hc=>by
  obtain ⟨i,hi⟩:=List.mem_iff_getElem?.1 hc
  have hlt:i<d.size:=by
   rcases zF i d.data.toList.length with q | q
   · rw [Array.length_toList] at q;exact q
   · rw [List.getElem?_eq_none q] at hi;cases hi
  have:=of_decide_eq_true (hd i hlt);rw [kJD d i c hi] at this;omega
 obtain ⟨n,q1,q2⟩:=dec_val d.data.toList 0 hm
 have hv:decV d=n:=by
  rw [← q2];unfold decV decK;rw [zT (by rw [nb_length];exact zR _)];rfl
 rw [Lib.atoiAll_short _ (by rw [Array.length_toList];exact h2),hv];have hlen:d.data.toList.length=d.size:=by rw [Array.length_toList];rfl
 generalize d.data.toList=t at *;cases t with
 | nil=>simp at hlen;omega
 | cons c r =>
   have hc:=hm c (zM ..);have q3:¬ c=45:=by rintro rfl;simp at hc
   have q4:¬ c=43:=by rintro rfl;simp at hc
   simp [Lib.atoi,q3,q4,Lib.decNat,q1,Lib.NumEnd.ofOption]
theorem atoi_none {d:Str} (h:d.size=0) {v:Int} (hv:Lib.atoiAll d.data.toList= .ok v):False:=by
 rw [show d.data.toList=[] from zL (by rw [Array.length_toList];exact h)] at hv;cases hv
theorem kGV (s:Str) (hs:s.size≤1000000) (k p:Nat) (num:Int) (bm:Nat) (w:World) (hb:kEE s k p num bm w) (hk:k≤s.size) (E:Env w) (hp8:8≤p) :
 Calls Tryz.prog 160 #[.pointer (some ⟨p,0,none⟩)] w fun e w'=>e= .returned (.tuple #[.string (s.extract k (runL s k)),.bool (kAZ (s.extract k (runL s k)))])∧kEE s (runL s k) p num bm w'∧Kb p w w':=by
 have hC:=rdr_take 164 (kBJ func164 rfl rfl) kB0 kI1 s hs k p num bm w hb hk;rw [show kDG (fun i=>kB0 (bt s i)) s.size k=runL s k from rfl] at hC;have HC:=hJ hC;clear hC;have HE:=hJ E;have hz:(s.extract k (runL s k)).size≤281474976710656:=by rw [ByteArray.size_extract];omega
 clear hb E;go_enter func160,ntmps160
 go_wp2_with fail
 refine HC.out.mono ?_;rintro e w1 ⟨rfl,hx,hk1⟩;have HX:=hJ hx;have HK:=hJ hk1;have HN:=hJ (kBR (s.extract k (runL s k)) hz w1 (HE.out.kb hk1 hp8));clear hx hk1 HC;generalize hve:s.extract k (runL s k)=v at *;have HVe:=hJ hve;clear hve
 go_wp2_with fail
 refine HN.out.mono ?_;rintro e w2 ⟨rfl,hb2⟩;have HX2:=hJ (HX.out.below hb2 HX.out.lt);have HK2:=hJ (HK.out.later hb2);clear HN hb2;generalize hoe:kAZ v=o at *;have HOe:=hJ hoe;clear hoe
 go_wp2_with fail
 refine bodyPost_ret (v:=.tuple #[.string v,.bool o]) (by simp [results,results160,go_sem]) rfl ?_;exact ⟨by rw [HVe.out,HOe.out],HX2.out,HK2.out⟩
def kFO (d:Str):Bool:=decide (1≤d.size∧d.size≤7) && (bt d 0 != 48 || decide (d.size=1))
theorem rdr_number (s:Str) (hs:s.size≤1000000) (k p:Nat) (num:Int) (bm:Nat) (w:World) (hb:kEE s k p num bm w) (hk:k≤s.size) (E:Env w) (hp8:8≤p) :
 Calls Tryz.prog 161 #[.pointer (some ⟨p,0,none⟩)] w fun e w'=>(∃ n,e= .returned (.tuple #[.int .i64 n,.bool (kFO (s.extract k (runD s k)))])∧(kFO (s.extract k (runD s k))=true→n=decV (s.extract k (runD s k))))∧kEE s (runD s k) p num bm w'∧Kb p w w':=by
 have hC:=rdr_take 159 (kBJ func159 rfl rfl) kAT kEZ s hs k p num bm w hb hk;rw [show kDG (fun i=>kAT (bt s i)) s.size k=runD s k from rfl] at hC;have HC:=hJ hC;clear hC;have HE:=hJ E;have hz:(s.extract k (runD s k)).size≤281474976710656:=by rw [ByteArray.size_extract];omega
 have HD:=hJ (kH7 hk);have HN:Hid (kFO (s.extract k (runD s k))=(decide (1≤(s.extract k (runD s k)).size∧(s.extract k (runD s k)).size≤7) && (bt (s.extract k (runD s k)) 0 != 48 || decide ((s.extract k (runD s k)).size=1)))):=hJ rfl;clear hb E;go_enter func161,ntmps161
 go_wp2_with fail
 refine HC.out.mono ?_;rintro e w1 ⟨rfl,hx,hk1⟩;have HX:=hJ hx;have HK:=hJ hk1;have HA:=hJ (atoi_any (s.extract k (runD s k)) hz w1 (HE.out.kb hk1 hp8));clear hx hk1 HC;generalize hde:s.extract k (runD s k)=d at *;generalize hke:runD s k=k2 at *;have HDe:=hJ hde;have HKe:=hJ hke;clear hde hke
 go_wp2_with fail
 refine HA.out.mono ?_;rintro e w2 ⟨hv,hb2⟩;have HX2:=hJ (HX.out.below hb2 HX.out.lt);have HK2:=hJ (HK.out.later hb2);clear HA hb2
 have HFin:Hid (∀ (v:Int) (o:Bool),kFO d=o→(o=true→v=decV d)→(∃ n,Ending.returned (.tuple #[.int .i64 v,.bool o])= .returned (.tuple #[.int .i64 n,.bool (kFO (s.extract k (runD s k)))])∧(kFO (s.extract k (runD s k))=true→n=decV (s.extract k (runD s k))))∧kEE s (runD s k) p num bm w2∧Kb p w w2):=hJ (fun v o ho hvo=>by
  rw [HKe.out,HDe.out,ho];exact ⟨⟨v,rfl,hvo⟩,HX2.out,HK2.out⟩)
 clear HDe HKe HX2 HK2 HX HK HE;rcases hv with ⟨v,hv,rfl⟩ | ⟨hv,v,t,q,rfl⟩
 · have h1:1≤d.size:=by
    rcases Nat.eq_zero_or_pos d.size with h0 | h0
    · exact (atoi_none h0 hv).elim
    · exact h0
   have g0:=kD5 d 0 h1;by_cases h7:d.size≤7
   · have q7:decide ((d.size:Int)≤7)=true:=decide_eq_true (by omega)
     have hval:v=decV d:=by
      rw [atoi_digits HD.out h1 (by omega)] at hv
      injection hv with hv
      exact hv.symm
     have HV:=hJ hval;clear hv hval;by_cases h48:(bt d 0==48)=true
     · have h48n:(bt d 0 != 48)=false:=by unfold bne;rw [h48];rfl
       by_cases hone:d.size=1
       · have HF:Hid (kFO d=true):=hJ (by rw [HN.out,decide_eq_true ⟨h1,h7⟩,decide_eq_true hone,Bool.or_true];rfl)
         have hz48:(d.toList==[48])=true:=by
          obtain ⟨c,r,e1,e2,e3⟩:=bt_list d h1;rw [List.drop_zero] at e1;have hr:r=[]:=by rw [e3];exact List.drop_of_length_le (by rw [Array.length_toList];show d.size≤_;omega)
          rw [ByteArray.toList_eq,e1,hr];have:c.toNat=48:=by have:=beq_iff_eq.1 h48;omega
          rw [show c=48 from UInt8.toNat_inj.1 this];rfl
         clear HN;generalize bt d 0=c0 at *
         go_wp2_with fail
         refine bodyPost_ret (v:=.tuple #[.int .i64 v,.bool true]) (by simp [results,results161,go_sem]) rfl ?_;exact HFin.out v true HF.out (fun _=>HV.out)
       · have HF:Hid (kFO d=false):=hJ (by rw [HN.out,decide_eq_true ⟨h1,h7⟩,decide_eq_false hone,h48n];rfl)
         have hz48:(d.toList==[48])=false:=by
          rw [ByteArray.toList_eq,beq_eq_false_iff_ne];intro e;apply hone;have:d.data.toList.length=1:=by rw [e];rfl
          rw [Array.length_toList] at this;exact this
         clear HN;generalize bt d 0=c0 at *
         go_wp2_with fail
         refine bodyPost_ret (v:=.tuple #[.int .i64 v,.bool false]) (by simp [results,results161,go_sem]) rfl ?_;exact HFin.out v false HF.out (fun h=>by cases h)
     · have h48:(bt d 0==48)=false:=by simpa using h48
       have h48n:(bt d 0 != 48)=true:=by unfold bne;rw [h48];rfl
       have HF:Hid (kFO d=true):=hJ (by rw [HN.out,decide_eq_true ⟨h1,h7⟩,h48n];rfl);clear HN;generalize bt d 0=c0 at *
       go_wp2_with fail
       refine bodyPost_ret (v:=.tuple #[.int .i64 v,.bool true]) (by simp [results,results161,go_sem]) rfl ?_;exact HFin.out v true HF.out (fun _=>HV.out)
   · have q7:decide ((d.size:Int)≤7)=false:=decide_eq_false (by omega)
     have HF:Hid (kFO d=false):=hJ (by rw [HN.out,decide_eq_false (by omega)];rfl);clear HN hv;generalize bt d 0=c0 at *
     go_wp2_with fail
     refine bodyPost_ret (v:=.tuple #[.int .i64 v,.bool false]) (by simp [results,results161,go_sem]) rfl ?_;exact HFin.out v false HF.out (fun h=>by cases h)
 · have hno:¬ (1≤d.size∧d.size≤7):=fun ⟨h1,h7⟩=>hv _ (atoi_digits HD.out h1 (by omega))
   have HF:Hid (kFO d=false):=hJ (by rw [HN.out,decide_eq_false hno];rfl);clear HN hv hno
   go_wp2_with fail
   refine bodyPost_ret (v:=.tuple #[.int .i64 v,.bool false]) (by simp [results,results161,go_sem]) rfl ?_;exact HFin.out v false HF.out (fun h=>by cases h)
def nameP (n:Int) (s:Str) (k:Nat):Int × Str × Bool × Nat:=(n,s.extract k (runL s k),kAZ (s.extract k (runL s k)),runL s k)
def itemQ (n:Int) (s:Str) (e:Nat):Int × Str × Bool × Nat :=
 if isAt s (blk s e) 42 then nameP n s (blk s (blk s e+1))
 else if decide (s.size≤e) || !kB0 (bt s e) then (n,⟨#[]⟩,true,e)
 else nameP n s e
def kBU (s:Str) (k:Nat):Int × Str × Bool × Nat :=
 if s.size≤k then (0,⟨#[]⟩,false,k)
 else if kAT (bt s k) then if kFO (s.extract k (runD s k)) then itemQ (decV (s.extract k (runD s k))) s (runD s k) else (0,⟨#[]⟩,false,runD s k)
 else nameP 1 s k
structure RSt (s:Str) (k p bm n:Nat) (x:Lin) (w:World):Prop where
 rd:kEE s k p x.const bm w
 mp:∃ D,MapF w bm n D (kAN x.terms)
 ne:p≠bm
theorem RSt.step {s:Str} {k k' p bm n:Nat} {x:Lin} {w w':World} (h:RSt s k p bm n x w) (hx:kEE s k' p x.const bm w') (hk:Kb p w w'):RSt s k' p bm n x w' :=
 ⟨hx,h.mp.imp fun D hm=>⟨by
   obtain ⟨es,clock,h1,h2⟩:=hm.own;exact ⟨es,clock,(hk.block bm hm.lt (Ne.symm h.ne)).trans h1,h2⟩,hm.at_⟩,h.ne⟩
theorem kII (x:Lin) (n:Int) {v:Str} (h:v.toList.isEmpty=true):kER x n v=⟨x.const+n,x.terms⟩:=by unfold kER;rw [if_pos h]
theorem accum_name (x:Lin) (n:Int) {v:Str} (h:v.toList.isEmpty=false):kER x n v=⟨x.const,plus x.terms v n⟩:=by unfold kER;rw [if_neg (by rw [h];decide)]
theorem RSt.put {s:Str} {k p bm n:Nat} {x:Lin} {w w':World} (h:RSt s k p bm n x w) (hs:Srt x.terms) {v:Str} {c:Int} {D':DataW Unit} (hm:MapF w' bm (n+1) D' (fun u=>if seq v u then kAN x.terms v+c else kAN x.terms u)) (hg:w.grownBy w' (some bm)) (hv:v.toList.isEmpty=false):RSt s k p bm (n+1) (kER x c v) w':=by
 rw [accum_name x c hv];refine ⟨(hg.block p h.rd.lt (fun e=>h.ne (by cases e;rfl))).trans h.rd,⟨D',hm.own,fun u=>?_⟩,h.ne⟩;rw [hm.at_ u]
 show _=DataW.lit (.int .i64 (kAN (plus x.terms v c) u))
 rw [plus_coef hs v c u];by_cases q:seq v u=true
 · rw [if_pos q,if_pos q,(kA6 v u).1 q]
 · rw [if_neg q,if_neg q,Int.add_zero]
def itemRes (r:Int × Str × Bool × Nat) (sg:Int) (s:Str) (p bm n:Nat) (x:Lin) (w:World) (e:Ending) (w':World):Prop :=
 e= .returned (.bool r.2.2.1)∧K2 p bm w w'∧(r.2.2.1=true→∃ n',n'≤n+1∧RSt s r.2.2.2 p bm n' (kER x (sg * r.1) r.2.1) w')
theorem K2.of_kb {p b:Nat} {w w':World} (h:Kb p w w'):K2 p b w w':=⟨h.os,h.tape,h.output,h.size,fun k hk h1 _=>h.block k hk h1⟩
theorem rdr_item (s:Str) (hs:s.size≤1000000) (k p bm n m:Nat) (x:Lin) (w:World) (hb:RSt s k p bm n x w) (hk:k≤s.size) (sg:Int) (hsg:sg=1∨sg= -1) (E:Env w) (hp8:8≤p) (hb8:8≤bm) (hA:AccOk m x) (hm:m≤1000000) (hn:n≤1000000) :
 Calls Tryz.prog 102 #[.pointer (some ⟨p,0,none⟩),.int .i64 sg] w (itemRes (kBU s k) sg s p bm n x w):=by
 have HS:=hJ hb;have HE:=hJ E;have z0:=hb.rd.cell 0 _ rfl;have hsz:(s.extract k s.size).size=s.size - k:=kDO s (zR _);clear hb E;by_cases hend:s.size≤k
 · have HF:Hid (kBU s k=(0,⟨#[]⟩,false,k)):=hJ (by unfold kBU;rw [if_pos hend])
   have hem:(s.extract k s.size).toList.isEmpty=true:=by rw [ByteArray.toList_eq,show (s.extract k s.size).data.toList=[] from zL (by rw [Array.length_toList];show (s.extract k s.size).size=0;omega)];rfl
   generalize s.extract k s.size=r at *;go_enter func102,ntmps102
   go_wp2_with fail
   go_ret;exact ⟨by rw [HF.out];rfl,K2.refl _ _ _,fun h=>by rw [HF.out] at h;cases h⟩
 · have hlt:k<s.size:=by omega
   have hem:(s.extract k s.size).toList.isEmpty=false:=by
    cases he:(s.extract k s.size).toList.isEmpty with
    | false=>rfl
    | true=>have:=kGE he;omega
   have hb0:bt (s.extract k s.size) 0=bt s k:=by rw [sub_bt s (zR _) (by omega),Nat.add_zero]
   generalize s.extract k s.size=r at *;have g0:=kD5 r 0 (by omega);rw [hb0] at g0;have hrl:(0:Int)<(r.size:Int):=by omega
   clear hb0;have HC:=hJ (kEZ (bt s k));by_cases hd:kAT (bt s k)=true
   · have HC2:=HC.out
     rw [hd] at HC2;have HC:=hJ HC2;have HI:Hid (kBU s k=if kFO (s.extract k (runD s k)) then itemQ (decV (s.extract k (runD s k))) s (runD s k) else (0,⟨#[]⟩,false,runD s k)):=hJ (by unfold kBU;rw [if_neg hend,if_pos hd]);have hdg:=kH7 hk;have hke:k≤runD s k:=kF2 _ _ _;have hes:runD s k≤s.size:=kIU hk;have HNu:=hJ (rdr_number s hs k p x.const bm w HS.out.rd hk HE.out hp8)
     have HOk:Hid (kFO (s.extract k (runD s k))=true→0≤decV (s.extract k (runD s k))∧decV (s.extract k (runD s k))<10000000):=hJ (fun h=>by
      unfold kFO at h;rw [zA] at h;have h7:=of_decide_eq_true h.1;exact decK_lt hdg h7.2 (zR _))
     clear HC2 hd hdg;generalize bt s k=c0 at *;generalize s.extract k (runD s k)=d at *;generalize runD s k=e at *;go_enter func102,ntmps102
     go_wp2_with fail
     refine (HC.out _).mono ?_;rintro e _ ⟨rfl,rfl⟩
     go_wp2_with fail
     refine HNu.out.mono ?_;rintro e2 w1 ⟨⟨n0,rfl,hn0⟩,hx1,hk1⟩;have HS1:=hJ (HS.out.step hx1 hk1);have HK1:=hJ (K2.of_kb (b:=bm) hk1);have HE1:=hJ (HE.out.kb hk1 hp8);clear hx1 hk1 HNu HC z0;cases hno:kFO d with
     | false =>
       have HF:Hid (kBU s k=(0,⟨#[]⟩,false,e)):=hJ (by rw [HI.out,if_neg (by rw [hno];decide)])
       go_wp2_with fail
       go_ret;exact ⟨by rw [HF.out];rfl,HK1.out,fun h=>by rw [HF.out] at h;cases h⟩
     | true =>
       have hv:=hn0 hno;obtain ⟨h0,h1⟩:=HOk.out hno;have HI2:Hid (kBU s k=itemQ (decV d) s e):=hJ (by rw [HI.out,if_pos hno]);rw [← hv] at h0 h1 HI2;clear hn0 hno hv HOk HI;have hb: -10000000≤sg * n0∧sg * n0≤10000000:=by rcases hsg with rfl | rfl <;> omega
       have hp1:IntKind.i64.wrap (sg * n0)=sg * n0:=by rw [IntKind.wrap_i64];omega
       have hp2: -9223372036854775808≤sg * n0:=by omega
       have hp3:sg * n0≤9223372036854775807:=by omega
       have HQ1:Hid (isAt s (blk s e) 42=true→kBU s k=nameP n0 s (blk s (blk s e+1))):=hJ (fun q=>by rw [HI2.out];unfold itemQ;rw [if_pos q]);have HQ2:Hid (isAt s (blk s e) 42=false→(decide (s.size≤e) || !kB0 (bt s e))=true→kBU s k=(n0,⟨#[]⟩,true,e)):=hJ (fun q q2=>by rw [HI2.out];unfold itemQ;rw [if_neg (by rw [q];decide),if_pos q2]);have HQ3:Hid (isAt s (blk s e) 42=false→(decide (s.size≤e) || !kB0 (bt s e))=false→kBU s k=nameP n0 s e):=hJ (fun q q2=>by rw [HI2.out];unfold itemQ;rw [if_neg (by rw [q];decide),if_neg (by rw [q2];decide)]);have z1:=HS1.out.rd.cell 0 _ rfl;have HT:Hid ((⟨(Lib.trimLeftB (s.extract e s.size).data.toList 32).toArray⟩:Str)=s.extract (blk s e) s.size):=hJ (mk_eq (by rw [kIP,kIP];exact trim_sub s _ e (zR _)));have HTr:=Tryz.strings_TrimLeft_one (s.extract e s.size) 32 (by decide) w1;rw [HT.out] at HTr;have HTr:=hJ HTr;have hPr:=Tryz.strings_HasPrefix (s.extract (blk s e) s.size) ⟨#[42]⟩ w1
       change Calls _ _ _ _ fun e w'=>e= .returned (.bool (Lib.hasPrefix _ [42]))∧_ at hPr
       rw [pre_one] at hPr;have hbe:blk s e≤s.size:=blk_le hes;have HX1:Hid (blk s e<s.size→(s.extract (blk s e) s.size).extract 1 (s.size - blk s e)=s.extract (blk s e+1) s.size):=hJ (fun hj=>by rw [sub_sub s (by omega),show blk s e+(s.size - blk s e)=s.size by omega]);have hsa:(s.extract (blk s e) s.size).size=s.size - blk s e:=kDO s (zR _);have hse:(s.extract e s.size).size=s.size - e:=kDO s (zR _);have HBte:Hid (e<s.size→bt (s.extract e s.size) 0=bt s e):=hJ (fun h=>by rw [sub_bt s (zR _) (by omega),Nat.add_zero]);have hU:kEE s e p x.const bm w1=Bx w1 p 135 [.string (s.extract e s.size),.int .i64 x.const,.map (some bm)]:=rfl;have HU:=hJ hU;clear HT hU HI2;cases ha:isAt s (blk s e) 42 with
       | true =>
         rw [show isAt s (blk s e) ((42:UInt8).toNat:Int)=true from ha] at hPr;have HPr:=hJ hPr;have hlt1:=kG5 ha;have HF:=hJ (HQ1.out ha);have HX2:=hJ (HX1.out hlt1);have hone:(1:Int)≤((s.extract (blk s e) s.size).size:Int):=by omega
         have f1:=HS1.out.rd.fz 0;clear hPr HQ1 HQ2 HQ3 HX1 ha HBte hse HS;generalize blk s e=b1 at *;generalize s.extract b1 s.size=af at *;generalize s.extract e s.size=re at *
         go_wp2_with fail
         refine HTr.out.mono ?_;rintro e3 w1 ⟨rfl,rfl⟩
         go_wp2_with fail
         refine HPr.out.mono ?_;rintro e3 w1 ⟨rfl,rfl⟩
         have HSa:Hid (RSt s (b1+1) p bm n x (w1.setCell ⟨p,0,none⟩ (.string (af.extract 1 (s.size - b1))))):=hJ (HS1.out.step (by
          have h1:=HS1.out.rd;rw [HU.out] at h1;unfold kEE;rw [← HX2.out];exact h1.set 0 _) ((Kb.refl p _).set _ _))
         have HKa:=hJ (HK1.out.trans (K2.set (b:=bm) w1 0 (.string (af.extract 1 (s.size - b1)))));have HEa:=hJ (HE1.out.kb ((Kb.refl p _).set 0 (.string (af.extract 1 (s.size - b1)))) hp8)
         go_wp2_with fail
         clear HTr HPr z1 f1 HS1 HE1 HK1 HU HX2;generalize w1.setCell ⟨p,0,none⟩ (.string (af.extract 1 (s.size - b1)))=w2 at *;refine (kHK s (b1+1) p x.const bm _ HSa.out.rd).mono ?_;rintro e3 w3 ⟨rfl,hx3,hk3⟩;have HSq:=hJ (HSa.out.step hx3 hk3);have HKq:=hJ (HKa.out.trans (K2.of_kb hk3));have HEq:=hJ (HEa.out.kb hk3 hp8);have hbs:blk s (b1+1)≤s.size:=blk_le (by omega);clear hx3 hk3 HSa HKa HEa;generalize blk s (b1+1)=b2 at *
         go_wp2_with fail
         refine (kGV s hs b2 p x.const bm _ HSq.out.rd hbs HEq.out hp8).mono ?_;rintro e w2 ⟨rfl,hx2,hk2⟩;have HS2:=hJ (HSq.out.step hx2 hk2);have HK2:=hJ (HKq.out.trans (K2.of_kb hk2));have hvs:(s.extract b2 (runL s b2)).size≤maxLen:=by rw [ByteArray.size_extract];unfold maxLen;omega
         have HNP:Hid (kBU s k=(n0,s.extract b2 (runL s b2),kAZ (s.extract b2 (runL s b2)),runL s b2)):=hJ HF.out;clear hx2 hk2 HSq HKq HEq HF;generalize s.extract b2 (runL s b2)=v at *;generalize runL s b2=k9 at *;obtain ⟨D,hM⟩:=HS2.out.mp;have hcb:=kFW (by omega) hA.bd v;have hlk:=hM.look v hvs;have hw2:IntKind.i64.wrap (kAN x.terms v+(sg * n0))=kAN x.terms v+(sg * n0):=by rw [IntKind.wrap_i64];omega
         obtain ⟨w6,D6,hr6,hM6,hg6⟩:=hM.put (by unfold maxLen;omega) v hvs (kAN x.terms v+(sg * n0)) (by omega);have y2:=HS2.out.rd.cell 2 _ rfl;have HK6:Hid (K2 p bm w w6):=hJ (HK2.out.trans (K2.of_grown hg6));have HP6:Hid (kAZ v=true→RSt s k9 p bm (n+1) (kER x ((sg * n0)) v) w6):=hJ (fun h=>HS2.out.put hA.srt hM6 hg6 (kI0 h));clear hcb hM hM6 hg6 HK2 HS2;generalize kAN x.terms v=cf at *;generalize kAZ v=o at *
         go_wp2_with fail
         go_ret;exact ⟨by rw [HNP.out];rfl,HK6.out,fun h=>by rw [HNP.out] at h ⊢;exact ⟨n+1,zR _,by rw [show sg * (n0:Int)=(sg * n0) by first | rfl | omega];exact HP6.out h⟩⟩
       | false =>
         rw [show isAt s (blk s e) ((42:UInt8).toNat:Int)=false from ha] at hPr;have HPr:=hJ hPr;have HR2:=hJ (HQ2.out ha);have HR3:=hJ (HQ3.out ha);clear hPr HQ1 HQ2 HQ3 HX1 ha HS;generalize blk s e=b1 at *;generalize s.extract b1 s.size=af at *;generalize s.extract e s.size=re at *;by_cases hee:s.size≤e
         · have HF:=hJ (HR2.out (by rw [decide_eq_true hee];rfl))
           have hem2:re.toList.isEmpty=true:=by rw [ByteArray.toList_eq,show re.data.toList=[] from zL (by rw [Array.length_toList];show re.size=0;omega)];rfl
           clear HR2 HR3 HBte
           go_wp2_with fail
           refine HTr.out.mono ?_;rintro e3 w1 ⟨rfl,rfl⟩
           go_wp2_with fail
           refine HPr.out.mono ?_;rintro e3 w1 ⟨rfl,rfl⟩;clear HTr HPr;have z2:=HS1.out.rd.cell 1 _ rfl;have f2:=HS1.out.rd.fz 1;have hcc:=hA.const;have hw2:IntKind.i64.wrap (x.const+sg * n0)=x.const+sg * n0:=by rw [IntKind.wrap_i64];omega
           have HSc:Hid (RSt s e p bm n (kER x (sg * n0) ⟨#[]⟩) (w1.setCell ⟨p,1,none⟩ (.int .i64 (x.const+sg * n0)))):=hJ (by
            rw [kII x _ (by rw [ByteArray.toList_eq];rfl)];exact ⟨HS1.out.rd.set 1 _,HS1.out.mp.imp fun D hm=>hm.setCell (by show p≠bm;exact HS1.out.ne) _,HS1.out.ne⟩)
           have HKc:=hJ (HK1.out.trans (K2.set (b:=bm) w1 1 (.int .i64 (x.const+sg * n0))));clear hcc
           go_wp2_with fail
           go_ret;exact ⟨by rw [HF.out];rfl,HKc.out,fun _=>by rw [HF.out];exact ⟨n,Nat.le_succ _,HSc.out⟩⟩
         · have hlte:e<s.size:=by omega
           have hem2:re.toList.isEmpty=false:=by
            cases he:re.toList.isEmpty with
            | false=>rfl
            | true=>have:=kGE he;omega
           have h0re:0<re.size:=by rw [hse];omega
           have ge:=kD5 re 0 h0re;rw [HBte.out hlte] at ge;clear HBte;have hrl2:(0:Int)<(re.size:Int):=by omega
           have hL:=fun W=>kI1 (bt s e) W
           generalize bt s e=ce at *;cases hl:kB0 ce with
           | true =>
             have HF:=hJ (HR3.out (by rw [decide_eq_false hee,hl];rfl));rw [hl] at hL;have HL:=hJ hL;clear hL HR2 HR3
             go_wp2_with fail
             refine HTr.out.mono ?_;rintro e3 w1 ⟨rfl,rfl⟩
             go_wp2_with fail
             refine HPr.out.mono ?_;rintro e3 w1 ⟨rfl,rfl⟩;clear HTr HPr
             go_wp2_with fail
             refine (HL.out _).mono ?_;rintro e _ ⟨rfl,rfl⟩
             go_wp2_with fail
             have HSq:=HS1;have HKq:=HK1;have HEq:=HE1;have hbs:=hes;refine (kGV s hs e p x.const bm _ HSq.out.rd hbs HEq.out hp8).mono ?_;rintro e w2 ⟨rfl,hx2,hk2⟩;have HS2:=hJ (HSq.out.step hx2 hk2);have HK2:=hJ (HKq.out.trans (K2.of_kb hk2));have hvs:(s.extract e (runL s e)).size≤maxLen:=by rw [ByteArray.size_extract];unfold maxLen;omega
             have HNP:Hid (kBU s k=(n0,s.extract e (runL s e),kAZ (s.extract e (runL s e)),runL s e)):=hJ HF.out;clear hx2 hk2 HSq HKq HEq HF;generalize s.extract e (runL s e)=v at *;generalize runL s e=k9 at *;obtain ⟨D,hM⟩:=HS2.out.mp;have hcb:=kFW (by omega) hA.bd v;have hlk:=hM.look v hvs;have hw2:IntKind.i64.wrap (kAN x.terms v+(sg * n0))=kAN x.terms v+(sg * n0):=by rw [IntKind.wrap_i64];omega
             obtain ⟨w6,D6,hr6,hM6,hg6⟩:=hM.put (by unfold maxLen;omega) v hvs (kAN x.terms v+(sg * n0)) (by omega);have y2:=HS2.out.rd.cell 2 _ rfl;have HK6:Hid (K2 p bm w w6):=hJ (HK2.out.trans (K2.of_grown hg6));have HP6:Hid (kAZ v=true→RSt s k9 p bm (n+1) (kER x ((sg * n0)) v) w6):=hJ (fun h=>HS2.out.put hA.srt hM6 hg6 (kI0 h));clear hcb hM hM6 hg6 HK2 HS2;generalize kAN x.terms v=cf at *;generalize kAZ v=o at *
             go_wp2_with fail
             go_ret;exact ⟨by rw [HNP.out];rfl,HK6.out,fun h=>by rw [HNP.out] at h ⊢;exact ⟨n+1,zR _,by rw [show sg * (n0:Int)=(sg * n0) by first | rfl | omega];exact HP6.out h⟩⟩
           | false =>
             have HF:=hJ (HR2.out (by rw [decide_eq_false hee,hl];rfl));rw [hl] at hL;have HL:=hJ hL;clear hL HR2 HR3
             go_wp2_with fail
             refine HTr.out.mono ?_;rintro e3 w1 ⟨rfl,rfl⟩
             go_wp2_with fail
             refine HPr.out.mono ?_;rintro e3 w1 ⟨rfl,rfl⟩;clear HTr HPr;have z2:=HS1.out.rd.cell 1 _ rfl;have f2:=HS1.out.rd.fz 1;have hcc:=hA.const;have hw2:IntKind.i64.wrap (x.const+sg * n0)=x.const+sg * n0:=by rw [IntKind.wrap_i64];omega
             have HSc:Hid (RSt s e p bm n (kER x (sg * n0) ⟨#[]⟩) (w1.setCell ⟨p,1,none⟩ (.int .i64 (x.const+sg * n0)))):=hJ (by
              rw [kII x _ (by rw [ByteArray.toList_eq];rfl)];exact ⟨HS1.out.rd.set 1 _,HS1.out.mp.imp fun D hm=>hm.setCell (by show p≠bm;exact HS1.out.ne) _,HS1.out.ne⟩)
             have HKc:=hJ (HK1.out.trans (K2.set (b:=bm) w1 1 (.int .i64 (x.const+sg * n0))));clear hcc
             go_wp2_with fail
             refine (HL.out _).mono ?_;rintro e _ ⟨rfl,rfl⟩
             go_wp2_with fail
             go_wp2_with fail
             go_ret;exact ⟨by rw [HF.out];rfl,HKc.out,fun _=>by rw [HF.out];exact ⟨n,Nat.le_succ _,HSc.out⟩⟩
   · have hd:kAT (bt s k)=false:=by simpa using hd
     have HF:Hid (kBU s k=nameP 1 s k):=hJ (by unfold kBU;rw [if_neg hend,if_neg (by rw [hd];decide)]);have HC2:=HC.out;rw [hd] at HC2;have HC:=hJ HC2;have HSq:=HS;have HKq:=hJ (K2.refl p bm w);have HEq:=HE;have hbs:=hk;clear HC2 hd;generalize bt s k=c0 at *;go_enter func102,ntmps102
     go_wp2_with fail
     refine (HC.out _).mono ?_;rintro e _ ⟨rfl,rfl⟩
     go_wp2_with fail
     refine (kGV s hs k p x.const bm _ HSq.out.rd hbs HEq.out hp8).mono ?_;rintro e w2 ⟨rfl,hx2,hk2⟩;have HS2:=hJ (HSq.out.step hx2 hk2);have HK2:=hJ (HKq.out.trans (K2.of_kb hk2));have hvs:(s.extract k (runL s k)).size≤maxLen:=by rw [ByteArray.size_extract];unfold maxLen;omega
     have HNP:Hid (kBU s k=(1,s.extract k (runL s k),kAZ (s.extract k (runL s k)),runL s k)):=hJ HF.out;clear hx2 hk2 HSq HKq HEq HF;generalize s.extract k (runL s k)=v at *;generalize runL s k=k9 at *;obtain ⟨D,hM⟩:=HS2.out.mp;have hcb:=kFW (by omega) hA.bd v;have hlk:=hM.look v hvs;have hw2:IntKind.i64.wrap (kAN x.terms v+sg)=kAN x.terms v+sg:=by rw [IntKind.wrap_i64];omega
     obtain ⟨w6,D6,hr6,hM6,hg6⟩:=hM.put (by unfold maxLen;omega) v hvs (kAN x.terms v+sg) (by omega);have y2:=HS2.out.rd.cell 2 _ rfl;have HK6:Hid (K2 p bm w w6):=hJ (HK2.out.trans (K2.of_grown hg6));have HP6:Hid (kAZ v=true→RSt s k9 p bm (n+1) (kER x (sg) v) w6):=hJ (fun h=>HS2.out.put hA.srt hM6 hg6 (kI0 h));clear hcb hM hM6 hg6 HK2 HS2;generalize kAN x.terms v=cf at *;generalize kAZ v=o at *
     go_wp2_with fail
     go_ret;exact ⟨by rw [HNP.out];rfl,HK6.out,fun h=>by rw [HNP.out] at h ⊢;exact ⟨n+1,zR _,by rw [show sg * (1:Int)=sg by first | rfl | omega];exact HP6.out h⟩⟩
theorem itoa_minus {n:Nat} (h:1≤n):(⟨#[45]⟩:Str)++kA4 (n:Int)=kA4 (-(n:Int)):=by
 unfold kA4;rw [Lib.itoa_nonneg,Lib.itoa_neg n h];apply ByteArray.ext;rw [ByteArray.data_append];simp
theorem kGZ (b:Str):(⟨#[]⟩:Str)++b=b:=ByteArray.empty_append
theorem kFC (b:Str):b++(⟨#[]⟩:Str)=b:=ByteArray.append_empty
theorem cut_m1:cutS (kA4 (-1))=⟨#[45]⟩:=by
 unfold cutS kA4;rw [show Lib.itoa (-1)=45 :: Lib.decDigits 1 from Lib.itoa_neg 1 (by decide),Lib.decDigits_one (by decide)];rfl
theorem cut_1:cutS (kA4 1)=⟨#[]⟩:=by
 unfold cutS kA4;rw [show Lib.itoa 1=Lib.decDigits 1 from Lib.itoa_nonneg 1,Lib.decDigits_one (by decide)];rfl
theorem plus_yes {o:Str} (h:o.toList.isEmpty=false):kIC o 1=o++⟨#[43]⟩:=by
 unfold kIC kHV;rw [h,if_pos (by decide)]
theorem plus_no {o:Str} (h:o.toList.isEmpty=true):kIC o 1=o:=by
 unfold kIC kHV;rw [h,if_neg (by decide)]
theorem kGX {s:Str} (h:0<s.size):s.toList.isEmpty=false:=by
 cases he:s.toList.isEmpty with
 | false=>rfl
 | true=>have:=kGE he;omega
end Go.Proofs.YtcjfagnlmlkedaaGreatDoor
