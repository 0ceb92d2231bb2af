/- The claim's texts, part V5: contracts of the functions that the statement reaches, and what they say of the data. -/
import Derived.Test.YtkndimjghfomcaaGreatDoorV4
set_option maxRecDepth 100000
set_option maxHeartbeats 8000000
set_option linter.all false
namespace Go.Proofs.YtkndimjghfomcaaGreatDoor
open Go.Proofs.Tryz
open Go.RowKit
theorem ref04_Subst {S T:Blk} {x:Lin} {cs:List Value} {w:World} (h:RLin.rd S w cs x) (hv:kAB x=true) (b:List Bnd) (a:Option Addr) (nb cb:Nat) (hbs:Sl RBnd T w a nb cb b) (hg:GoodB b) :
 Calls Tryz.prog 49 #[.agg cs.toArray,.slice a nb cb] w fun e w'=>(∃ ds,e= .returned (.tuple #[.agg ds.toArray,.int .i64 (limE (kAD b x))])∧RLin.rd (fun k=>w.heap.size≤k) w' ds (limL (kAD b x)))∧Below w.heap.size w w':=by
 have HCV:Hid (∀ W,Below w.heap.size w W→Calls Tryz.prog 52 #[.agg cs.toArray] W fun e w'=>e= .returned (.bool true)∧Below W.heap.size W w') :=
  hJ (fun W hW=>hv ▸ kCB (RLin.below h hW) (kES hv))
 have HZ:=hJ (subRaw_sz hg hv);obtain ⟨_,rfl,ax,cx,rfl,hsx⟩:=h;have hvp:=kA1 hv;have HP:=hJ hvp;have HV:=hJ hv;have HG:=hJ hg;have HSX:=hJ hsx;have HBS:=hJ hbs;have hmx:=hsx.small;have hlen:=hvp.2.2.2.2.2;clear hsx hbs hvp hv hg;generalize hnx:x.terms.length=n at *;have HNX:=hJ hnx;clear hnx;obtain ⟨B0,ya,yb,hW0⟩:=box2 w 45 [.int .i64 x.const,.slice ax n cx] 45 [.int .i64 0,.slice none 0 0];have xa0:=box0 ya 0 _ rfl;have xa1:=box0 ya 1 _ rfl;have xb0:=box0 yb 0 _ rfl;have xb1:=box0 yb 1 _ rfl;have bka:Bx _ _ _ _:=ya;have bkb:Bx _ _ _ _:=yb;clear ya yb;have HB4:=hJ bkb;clear bka bkb;go_enter func49,ntmps49
 go_wp2_with fail
 refine (HCV.out _ B0.out).mono ?_;rintro e w1 ⟨rfl,hb⟩;have y0:=kAF xa0 _ hb;have y1:=kAF xa1 _ hb;have HW:=hJ (B0.out.trans (hb.mono B0.out.size));have HX4:=hJ (HB4.out.below hb HB4.out.lt);have hl4:=HX4.out.lt;have hl2:w.heap.size<w1.heap.size:=by omega
 clear xa0 xa1 xb0 xb1 hb HB4
 go_wp2_with fail
 go_loopw [7] (fun i wr=>∃ (j:Nat) (v:Value),j≤n∧i= .int .i64 j∧Hid (Bx wr w1.heap.size 45 [.int .i64 (kC6 b x.const (x.terms.take j)).const,v])∧Hid (SlV kA2 (fun q=>w1.heap.size+1≤q) wr v (kC6 b x.const (x.terms.take j)).terms)∧Hid (Below w1.heap.size w1 wr)) (fun i _=>n - (intOf i).toNat)
 case atStart=>exact ⟨0,_,Nat.zero_le _,rfl,hJ (Bx.fresh _ _ [.int .i64 x.const,.slice none 0 0]),hJ ⟨none,0,rfl,Sl.empty _ _ _⟩,hJ ((Below.refl _ _).alloc (Nat.le_refl _) _)⟩
 case round =>
  obtain ⟨j,v,hj,rfl,HX,HSV,HB⟩:=hrel;have z1:=kAF y1 _ HB.out;have hgs:=HX.out.lt;have hls:w1.heap.size<wr.heap.size:=hgs;by_cases hlt:j<n
  · obtain ⟨b0,off,rfl,hbW,_⟩:=HSX.out.form j hlt
    have HBw:=hJ (HW.out.trans (HB.out.mono HW.out.size));obtain ⟨c0,c1⟩:=(HSX.out.below HBw.out).coef j hlt;have HKl:Hid (j<x.terms.length):=hJ (by rw [HNX.out];exact hlt);have HStep:=hJ (subRun_take (b:=b) (c:=x.const) HKl.out);have HOK:=hJ (valid_take HV.out HG.out j (by rw [HNX.out];exact hj));have HN:=hJ (HP.out.2.2.2.1 _ (kAJ HKl.out));have HCb:=hJ (HP.out.2.2.1 _ (kAJ HKl.out));have HS1:=hJ (kGR HG.out HN.out);have HSel:Hid (sub1 b (x.terms.getD j default).v=if b.any (isB 1 (x.terms.getD j default).v) then bndL b (x.terms.getD j default).v else varL (x.terms.getD j default).v):=hJ rfl;have HC:=hJ (fun (W:World) (hW:Below wr.heap.size wr W)=>ref04_bound b a nb cb W (HBS.out.below (HBw.out.trans (hW.mono HBw.out.size))) (x.terms.getD j default).v);obtain ⟨av,cv,rfl,hsv⟩:=HSV.out;have HSv:=hJ hsv;clear hsv HSV;generalize x.terms.getD j default=t at *;generalize hacc:kC6 b x.const (x.terms.take j)=acc at *;generalize hL:acc.terms.length=L at *;have HL:=hJ hL;clear hacc hL;have q0:=HX.out.cell 0 _ rfl;have q1:=HX.out.cell 1 _ rfl
    go_wp2_with fail
    have hA1:Below wr.heap.size wr (wr.alloc (.cells #[.string t.v,.int .i64 t.c] 77)):=(Below.refl _ _).alloc (Nat.le_refl _) _;refine (HC.out _ hA1).mono ?_;rintro e w2 ⟨⟨ds,rfl,hr2⟩,hb2⟩;obtain ⟨_,rfl,ab,cb2,rfl,hsb⟩:=hr2;have HX8:=hJ ((Bx.fresh wr 77 [.string t.v,.int .i64 t.c]).below hb2 (by simp));have hB2:Below wr.heap.size wr w2:=hA1.trans (hb2.mono hA1.size);have HX2:=hJ (HX.out.below hB2 hgs);have HSv2:=hJ (HSv.out.below hB2);have HSb:=hJ hsb.all;have HBB2:=hJ hB2;have h8:wr.heap.size<w2.heap.size:=by have:=hb2.size;simp at this;omega
    clear hA1 hb2 hB2 hsb c0 c1 q0 q1 HSv HX;generalize b.any (isB 1 t.v)=ok at *;cases ok with
    | true =>
      have HSel2:Hid (bndL b t.v=sub1 b t.v):=hJ (by rw [HSel.out];rfl);rw [HSel2.out] at HSb;rw [HSel2.out];have HX6:=hJ (HX2.out.alloc (.cells #[.int .i64 (sub1 b t.v).const,.slice ab (sub1 b t.v).terms.length cb2] 45));have HX8:=hJ (HX8.out.alloc (.cells #[.int .i64 (sub1 b t.v).const,.slice ab (sub1 b t.v).terms.length cb2] 45));have HX9:=hJ (Bx.fresh w2 45 [.int .i64 (sub1 b t.v).const,.slice ab (sub1 b t.v).terms.length cb2]);have HS9:=hJ (HSb.out.below ((Below.refl _ _).alloc (Nat.le_refl _) (.cells #[.int .i64 (sub1 b t.v).const,.slice ab (sub1 b t.v).terms.length cb2] 45)));have HSv9:=hJ (HSv2.out.below ((Below.refl _ _).alloc (Nat.le_refl _) (.cells #[.int .i64 (sub1 b t.v).const,.slice ab (sub1 b t.v).terms.length cb2] 45)));have HB9:Hid (Below w1.heap.size w1 (w2.alloc (.cells #[.int .i64 (sub1 b t.v).const,.slice ab (sub1 b t.v).terms.length cb2] 45))):=hJ ((HB.out.trans (HBB2.out.mono HB.out.size)).alloc (by omega) _)
      go_wp2_with fail
      have h9:w2.heap.size<(w2.alloc (.cells #[.int .i64 (sub1 b t.v).const,.slice ab (sub1 b t.v).terms.length cb2] 45)).heap.size:=by simp
      generalize (w2.alloc (.cells #[.int .i64 (sub1 b t.v).const,.slice ab (sub1 b t.v).terms.length cb2] 45))=X9 at *;generalize ab=a9 at *;generalize cb2=c9 at *;have g60:=HX6.out.cell 0 _ rfl;have g61:=HX6.out.cell 1 _ rfl;have g80:=HX8.out.cell 0 _ rfl;have g81:=HX8.out.cell 1 _ rfl;have g90:=HX9.out.cell 0 _ rfl;have g91:=HX9.out.cell 1 _ rfl;have HCV2:=hJ (kCB (w:=X9) (x:=sub1 b t.v) (cs:=[.int .i64 (sub1 b t.v).const,.slice a9 (sub1 b t.v).terms.length c9]) ⟨_,rfl,a9,c9,rfl,HS9.out⟩ (kES HS1.out));rw [HS1.out] at HCV2
      go_wp2_with fail
      refine (HCV2.out).mono ?_;rintro e w3 ⟨rfl,hb3⟩;have HX63:=hJ (HX6.out.below hb3 HX6.out.lt);have HX83:=hJ (HX8.out.below hb3 HX8.out.lt);have HX93:=hJ (HX9.out.below hb3 HX9.out.lt);have HS93:=hJ (HS9.out.below hb3);have HSv3:=hJ (HSv9.out.below hb3);have HB3:=hJ (HB9.out.trans (hb3.mono HB9.out.size));have g60:=HX63.out.cell 0 _ rfl;have g61:=HX63.out.cell 1 _ rfl;have g81:=HX83.out.cell 1 _ rfl;have g90:=HX93.out.cell 0 _ rfl;have g91:=HX93.out.cell 1 _ rfl;have hs3:wr.heap.size<w3.heap.size:=by have:=hb3.size;omega
      have HCT:=hJ (ref04_Times (w:=w3) (x:=acc) (y:=sub1 b t.v) (cs:=[.int .i64 acc.const,.slice av L cv]) (ds:=[.int .i64 (sub1 b t.v).const,.slice a9 (sub1 b t.v).terms.length c9]) ⟨_,rfl,av,cv,by rw [HL.out],by rw [HL.out];exact HSv3.out⟩ ⟨_,rfl,a9,c9,rfl,HS93.out⟩ (by omega) HOK.out HS1.out t.c HCb.out);clear hb3
      go_wp2_with fail
      refine HCT.out.mono ?_;rintro e w4 ⟨⟨ds4,rfl,hr4⟩,hb4⟩;obtain ⟨_,rfl,a4,c4,rfl,hs4⟩:=hr4;have HX64:=hJ (HX63.out.below hb4 (by omega));have k0:=HX64.out.cell 0 _ rfl;have k1:=HX64.out.cell 1 _ rfl;have k2:=HX64.out.fz 0;have k3:=HX64.out.fz 1
      have HVN:Hid (SlV kA2 (fun q=>w1.heap.size+1≤q) ((w4.setCell ⟨w1.heap.size,0,none⟩ (.int .i64 (kB3 acc (sub1 b t.v) t.c).const)).setCell ⟨w1.heap.size,1,none⟩ (.slice a4 (kB3 acc (sub1 b t.v) t.c).terms.length c4)) (.slice a4 (kB3 acc (sub1 b t.v) t.c).terms.length c4) (kB3 acc (sub1 b t.v) t.c).terms):=hJ (by
       refine ⟨a4,c4,rfl,(hs4.frame fun q hq _=>?_).mono (fun q hq _=>by omega)⟩;rw [kAA (by show w1.heap.size≠q;omega),kAA (by show w1.heap.size≠q;omega)])
      go_wp2_with fail
      go_roundw
      case rel=>exact ⟨j+1,_,by omega,by go_num,by rw [HStep.out];exact hJ ((HX64.out.set 0 _).set 1 _),by rw [HStep.out];exact HVN,hJ (((HB3.out.trans (hb4.mono HB3.out.size)).setCell (Nat.le_refl _) _).setCell (Nat.le_refl _) _)⟩
      case measure=>simp [intOf];omega
    | false =>
      have HSel2:Hid (sub1 b t.v=varL t.v):=hJ (by rw [HSel.out];rfl);generalize bndL b t.v=nb2 at *;have HA2:=hJ ((Below.refl w2.heap.size w2).alloc (Nat.le_refl _) (.cells #[.int .i64 nb2.const,.slice ab nb2.terms.length cb2] 45));have HX8a:=hJ (HX8.out.alloc (.cells #[.int .i64 nb2.const,.slice ab nb2.terms.length cb2] 45));have g80:=HX8a.out.cell 0 _ rfl;have HCVar:=ref04_Var t.v (w2.alloc (.cells #[.int .i64 nb2.const,.slice ab nb2.terms.length cb2] 45));rw [← HSel2.out] at HCVar;have HCVar:=hJ HCVar
      go_wp2_with fail
      refine HCVar.out.mono ?_;rintro e w5 ⟨⟨_,rfl,hr5⟩,hb5⟩;obtain ⟨_,rfl,a9,c9,rfl,hs9⟩:=hr5;have HX90:=hJ ((Bx.fresh w2 45 [.int .i64 nb2.const,.slice ab nb2.terms.length cb2]).below hb5 (by simp));have u0:=HX90.out.cell 0 _ rfl;have u1:=HX90.out.cell 1 _ rfl;have u2:=HX90.out.fz 0;have u3:=HX90.out.fz 1;have h85:wr.heap.size<w5.heap.size:=by have:=hb5.size;simp at this;omega
      have h95:w2.heap.size<w5.heap.size:=HX90.out.lt;have HB5:Hid (Below w2.heap.size w2 w5):=hJ (HA2.out.trans (hb5.mono (by simp)));have HX9:Hid (Bx ((w5.setCell ⟨w2.heap.size,0,none⟩ (.int .i64 (sub1 b t.v).const)).setCell ⟨w2.heap.size,1,none⟩ (.slice a9 (sub1 b t.v).terms.length c9)) w2.heap.size 45 [.int .i64 (sub1 b t.v).const,.slice a9 (sub1 b t.v).terms.length c9]):=hJ ((HX90.out.set 0 _).set 1 _);have HBs:Hid (Below w2.heap.size w2 ((w5.setCell ⟨w2.heap.size,0,none⟩ (.int .i64 (sub1 b t.v).const)).setCell ⟨w2.heap.size,1,none⟩ (.slice a9 (sub1 b t.v).terms.length c9))):=hJ ((HB5.out.setCell (Nat.le_refl _) _).setCell (Nat.le_refl _) _);have HX6:=hJ (HX2.out.below HBs.out (by omega));have HX8:=hJ (HX8.out.below HBs.out h8);have HSv9:=hJ (HSv2.out.below HBs.out)
      have HS9:Hid (Sl kA2 All ((w5.setCell ⟨w2.heap.size,0,none⟩ (.int .i64 (sub1 b t.v).const)).setCell ⟨w2.heap.size,1,none⟩ (.slice a9 (sub1 b t.v).terms.length c9)) a9 (sub1 b t.v).terms.length c9 (sub1 b t.v).terms):=hJ ((hs9.frame fun q hq _=>by
       have hq:w2.heap.size+1≤q:=by simpa using hq
       rw [kAA (by show w2.heap.size≠q;omega),kAA (by show w2.heap.size≠q;omega)]).all)
      have HB9:Hid (Below w1.heap.size w1 ((w5.setCell ⟨w2.heap.size,0,none⟩ (.int .i64 (sub1 b t.v).const)).setCell ⟨w2.heap.size,1,none⟩ (.slice a9 (sub1 b t.v).terms.length c9))):=hJ (HB.out.trans ((HBB2.out.trans (HBs.out.mono (by omega))).mono HB.out.size));have h9:w2.heap.size<((w5.setCell ⟨w2.heap.size,0,none⟩ (.int .i64 (sub1 b t.v).const)).setCell ⟨w2.heap.size,1,none⟩ (.slice a9 (sub1 b t.v).terms.length c9)).heap.size:=HX9.out.lt;have v0:=HX9.out.cell 0 _ rfl;have v1:=HX9.out.cell 1 _ rfl;clear hs9 hb5
      go_wp2_with fail
      clear u0 u1 u2 u3 v0 v1 g80 HX8a;generalize ((w5.setCell ⟨w2.heap.size,0,none⟩ (.int .i64 (sub1 b t.v).const)).setCell ⟨w2.heap.size,1,none⟩ (.slice a9 (sub1 b t.v).terms.length c9))=X9 at *;have g60:=HX6.out.cell 0 _ rfl;have g61:=HX6.out.cell 1 _ rfl;have g80:=HX8.out.cell 0 _ rfl;have g81:=HX8.out.cell 1 _ rfl;have g90:=HX9.out.cell 0 _ rfl;have g91:=HX9.out.cell 1 _ rfl;have HCV2:=hJ (kCB (w:=X9) (x:=sub1 b t.v) (cs:=[.int .i64 (sub1 b t.v).const,.slice a9 (sub1 b t.v).terms.length c9]) ⟨_,rfl,a9,c9,rfl,HS9.out⟩ (kES HS1.out));rw [HS1.out] at HCV2
      go_wp2_with fail
      refine (HCV2.out).mono ?_;rintro e w3 ⟨rfl,hb3⟩;have HX63:=hJ (HX6.out.below hb3 HX6.out.lt);have HX83:=hJ (HX8.out.below hb3 HX8.out.lt);have HX93:=hJ (HX9.out.below hb3 HX9.out.lt);have HS93:=hJ (HS9.out.below hb3);have HSv3:=hJ (HSv9.out.below hb3);have HB3:=hJ (HB9.out.trans (hb3.mono HB9.out.size));have g60:=HX63.out.cell 0 _ rfl;have g61:=HX63.out.cell 1 _ rfl;have g81:=HX83.out.cell 1 _ rfl;have g90:=HX93.out.cell 0 _ rfl;have g91:=HX93.out.cell 1 _ rfl;have hs3:wr.heap.size<w3.heap.size:=by have:=hb3.size;omega
      have HCT:=hJ (ref04_Times (w:=w3) (x:=acc) (y:=sub1 b t.v) (cs:=[.int .i64 acc.const,.slice av L cv]) (ds:=[.int .i64 (sub1 b t.v).const,.slice a9 (sub1 b t.v).terms.length c9]) ⟨_,rfl,av,cv,by rw [HL.out],by rw [HL.out];exact HSv3.out⟩ ⟨_,rfl,a9,c9,rfl,HS93.out⟩ (by omega) HOK.out HS1.out t.c HCb.out);clear hb3
      go_wp2_with fail
      refine HCT.out.mono ?_;rintro e w4 ⟨⟨ds4,rfl,hr4⟩,hb4⟩;obtain ⟨_,rfl,a4,c4,rfl,hs4⟩:=hr4;have HX64:=hJ (HX63.out.below hb4 (by omega));have k0:=HX64.out.cell 0 _ rfl;have k1:=HX64.out.cell 1 _ rfl;have k2:=HX64.out.fz 0;have k3:=HX64.out.fz 1
      have HVN:Hid (SlV kA2 (fun q=>w1.heap.size+1≤q) ((w4.setCell ⟨w1.heap.size,0,none⟩ (.int .i64 (kB3 acc (sub1 b t.v) t.c).const)).setCell ⟨w1.heap.size,1,none⟩ (.slice a4 (kB3 acc (sub1 b t.v) t.c).terms.length c4)) (.slice a4 (kB3 acc (sub1 b t.v) t.c).terms.length c4) (kB3 acc (sub1 b t.v) t.c).terms):=hJ (by
       refine ⟨a4,c4,rfl,(hs4.frame fun q hq _=>?_).mono (fun q hq _=>by omega)⟩;rw [kAA (by show w1.heap.size≠q;omega),kAA (by show w1.heap.size≠q;omega)])
      go_wp2_with fail
      go_roundw
      case rel=>exact ⟨j+1,_,by omega,by go_num,by rw [HStep.out];exact hJ ((HX64.out.set 0 _).set 1 _),by rw [HStep.out];exact HVN,hJ (((HB3.out.trans (hb4.mono HB3.out.size)).setCell (Nat.le_refl _) _).setCell (Nat.le_refl _) _)⟩
      case measure=>simp [intOf];omega
  · obtain rfl:j=n:=by omega
    have HEnd:Hid (kC6 b x.const (x.terms.take j)=kAD b x):=hJ (by rw [List.take_of_length_le (by rw [HNX.out];exact Nat.le_refl _)];rfl);rw [HEnd.out] at HX HSV;obtain ⟨av,cv,rfl,hsv⟩:=HSV.out;have HCL:=hJ (ref04_limited (w:=wr) (x:=kAD b x) (cs:=[.int .i64 (kAD b x).const,.slice av (kAD b x).terms.length cv]) ⟨_,rfl,av,cv,rfl,hsv⟩ HZ.out);have q0:=HX.out.cell 0 _ rfl;have q1:=HX.out.cell 1 _ rfl;have HX40:=hJ (HX4.out.below HB.out hl4);clear hsv HSV
    go_wp2_with fail
    refine HCL.out.mono ?_;rintro e w5 ⟨⟨_,rfl,hr5⟩,hb5⟩;obtain ⟨_,rfl,a5,c5,rfl,hs5⟩:=hr5;have HX5:=hJ (HX40.out.below hb5 (by omega));have u0:=HX5.out.cell 0 _ rfl;have u1:=HX5.out.cell 1 _ rfl;have u2:=HX5.out.fz 0;have u3:=HX5.out.fz 1;have HX60:=hJ ((HX5.out.set 0 (.int .i64 (limL (kAD b x)).const)).set 1 (.slice a5 (limL (kAD b x)).terms.length c5));have s0:=HX60.out.cell 0 _ rfl;have s1:=HX60.out.cell 1 _ rfl;have HS5:=hJ hs5;clear hs5
    go_wp2_with fail
    refine bodyPost_ret (v:=.tuple #[.agg #[.int .i64 (limL (kAD b x)).const,.slice a5 (limL (kAD b x)).terms.length c5],.int .i64 (limE (kAD b x))]) (by simp [results,results49,go_sem,s0,s1]) rfl ?_;refine ⟨⟨[.int .i64 (limL (kAD b x)).const,.slice a5 (limL (kAD b x)).terms.length c5],rfl,⟨_,rfl,a5,c5,rfl,?_⟩⟩,?_⟩
    · refine (HS5.out.frame fun q hq _=>?_).mono (fun q hq _=>by have:=HW.out.size;omega)
      rw [kAA (by show w.heap.size+1≠q;omega),kAA (by show w.heap.size+1≠q;omega)]
    · exact HW.out.trans ((((HB.out.trans (hb5.mono HB.out.size)).mono HW.out.size).setCell (by show _≤w.heap.size+1;omega) _).setCell (by show _≤w.heap.size+1;omega) _)
def Fx (b:List Bnd) (T:Blk) (w:World):Blk:=fun k=>(¬kCI b∧T k∧k<w.heap.size)∨w.heap.size≤k
theorem Fx.plain {b:List Bnd} {T:Blk} {w:World} (h:kCI b) {k:Nat} (hk:Fx b T w k):w.heap.size≤k:=hk.elim (fun q=>absurd h q.1) id
theorem kHO {S T:Blk} (row:Str) (a0:Option Addr) (n0 c0:Nat) (l0 l:List Lin) (a:Option Addr) (n c:Nat) (w:World) (h0:Sl RLin T w a0 n0 c0 l0) (h:Sl RLin S w a n c l) (hn:n0+n≤6) :
 Calls Tryz.prog 112 #[.string row,.slice a0 n0 c0,.slice a n c] w fun e w'=>(∃ a5 c5,e= .returned (.tuple #[.agg #[.string row,.slice a5 (n0+n) c5],.int .i64 0])∧Sl RLin (fun k=>((T k∨S k)∧k<w.heap.size)∨w.heap.size≤k) w' a5 (n0+n) c5 (l0++l))∧Below w.heap.size w w':=by
 have HL:=hJ h.len;have HL0:=hJ h0.len;have HS:=hJ (h.mono (S':=fun k=>(T k∨S k)∧k<w.heap.size) (fun k hk hlt=>⟨.inr hk,hlt⟩));have HS0:=hJ (h0.mono (S':=fun k=>(T k∨S k)∧k<w.heap.size) (fun k hk hlt=>⟨.inl hk,hlt⟩));have hm:=h.small;have hm0:=h0.small;have hn2:(n0:Int)+(n:Int)≤6:=by omega
 have B0:Hid (Below w.heap.size w (w.alloc (.cells #[.string ⟨#[]⟩,.slice none 0 0] 24))):=hJ ((Below.refl _ _).alloc (Nat.le_refl _) _);have HT:=hJ (Bx.fresh w 24 [.string ⟨#[]⟩,.slice none 0 0]);have hq:∀ k,(Value.slice (some ⟨w.heap.size+1,0,none⟩) 0 0).ownBlock=some k→w.heap.size≤k:=by intro k e;simp [Value.ownBlock] at e;omega
 have HBj:Hid (Below w.heap.size w ((w.alloc (.cells #[.string ⟨#[]⟩,.slice none 0 0] 24)).alloc (.cells #[] 45))):=hJ (B0.out.alloc (by simp) _);have HSj:=hJ (HS0.out.later HBj.out (v:=.slice (some ⟨w.heap.size+1,0,none⟩) 0 0) hq);clear h h0;have tok1:=True.intro;go_enter func112,ntmps112
 go_wp2_with (first
  | (have _t:=tok1
     at_builtin
     refine app_sl kBP rfl _ _ rfl (w.heap.size+1) (.slice (some ⟨w.heap.size+1,0,none⟩) 0 0) [] l0 rfl (Own.at0 RLin _ (fun k=>(T k∨S k)∧k<w.heap.size) (by (simp only [kAI,kAH,Array.getElem?_push,Array.size_push];simp)) (Nat.le_refl _)) a0 n0 c0 rfl HSj.out (by simp;omega) (by unfold maxLen;simp;omega) (by simp) ?_;intro v4 w4 hown4 hb4 hk4;have HO4:=hJ hown4;have HB4:=hJ hb4
     change Kp (.slice (some ⟨w.heap.size+1,0,none⟩) 0 0) _ _ w4 at hk4
     have HX4:=hJ ((HT.out.alloc _).kp hk4 (by simp [Value.ownBlock]));have HBw4:Hid (Below w.heap.size w w4):=hJ ((B0.out.alloc (by simp) _).trans (hb4.mono (Nat.le_succ _)));clear tok1 hown4 hb4 hk4)
  | (at_builtin
     refine app_sl kBP rfl _ _ rfl (w.heap.size+1) _ _ l rfl HO4.out a n c rfl ?r1 (by rw [List.nil_append,HL0.out];omega) (by unfold maxLen;rw [List.nil_append,HL0.out];omega) (by have:=HB4.out.size;simp at this;omega) ?_
     case r1=>exact HS.out.later HBw4.out (fun k e=>Nat.le_trans (Nat.le_succ _) (HO4.out.base_le k e))
     intro v5 w5 hown5 hb5 hk5;obtain ⟨a5,m5,c5,rfl⟩:=hown5.shape
     change Kp v4 _ _ w5 at hk5
     have HX5:=hJ (HX4.out.kp hk5 (HO4.out.ne (Nat.lt_succ_self _)));have u0:=HX5.out.cell 0 _ rfl;have u1:=HX5.out.cell 1 _ rfl;have u2:=HX5.out.fz 0;have u3:=HX5.out.fz 1;have HX60:=hJ ((HX5.out.set 0 (.string row)).set 1 (.slice a5 m5 c5));have s0:=HX60.out.cell 0 _ rfl;have s1:=HX60.out.cell 1 _ rfl))
 have hown5:Own RLin 45 (fun k=>(T k∨S k)∧k<w.heap.size) w5 (w.heap.size+1) (.slice a5 m5 c5) (l0++l):=hown5;have hll:(l0++l).length=n0+n:=by rw [List.length_append,HL0.out,HL.out]
 obtain ⟨a6,c6,e6,hs6⟩:=hown5.sl;rw [Value.slice.injEq] at e6;obtain ⟨rfl,rfl,rfl⟩:=e6;rw [hll] at s0 s1 hs6 ⊢;refine bodyPost_ret (v:=.tuple #[.agg #[.string row,.slice a5 (n0+n) c5],.int .i64 0]) (by simp [results,results112,go_sem,s0,s1]) rfl ?_;refine ⟨⟨a5,c5,rfl,?_⟩,(((HBw4.out.trans (hb5.mono (Nat.le_succ _))).setCell (Nat.le_refl _) _).setCell (Nat.le_refl _) _)⟩;refine (hs6.frame fun q hq _=>?_).mono (fun q hq _=>by rcases hq with hq | hq;exact .inl hq;exact .inr (by omega));have hne:w.heap.size≠q:=by rcases hq with hq | hq <;> intro e <;> omega
 rw [kAA hne,kAA hne]
theorem ref11_join_long (row:Str) (a0:Option Addr) (n0 c0:Nat) (a:Option Addr) (n c:Nat) (w:World) (hn:¬ n0+n≤6) (hm:n0+n≤1000) :
 Calls Tryz.prog 112 #[.string row,.slice a0 n0 c0,.slice a n c] w fun e w'=>e= .returned (.tuple #[.agg #[.string ⟨#[]⟩,.slice none 0 0],.int .i64 3])∧Below w.heap.size w w':=by
 have hn2:¬ (n0:Int)+(n:Int)≤6:=by omega
 have B0:Hid (Below w.heap.size w (w.alloc (.cells #[.string ⟨#[]⟩,.slice none 0 0] 24))):=hJ ((Below.refl _ _).alloc (Nat.le_refl _) _);have HT:=hJ (Bx.fresh w 24 [.string ⟨#[]⟩,.slice none 0 0]);have HX60:=hJ (((HT.out.alloc (.cells #[.string ⟨#[]⟩,.slice none 0 0] 24)).set 0 (.string ⟨#[]⟩)).set 1 (.slice none 0 0));have s0:=HX60.out.cell 0 _ rfl;have s1:=HX60.out.cell 1 _ rfl;go_enter func112,ntmps112
 (try simp only []);repeat (first | go_values | go_skip | go_guarded | go_step | go_upon)
 refine bodyPost_ret (v:=.tuple #[.agg #[.string ⟨#[]⟩,.slice none 0 0],.int .i64 3]) (by simp [results,results112,go_sem,s0,s1]) rfl ?_;exact ⟨rfl,B0.out⟩
theorem ref11_Subst {S T:Blk} {s:Shp} {cs:List Value} {w:World} (h:RShp.rd S w cs s) (hv:kAG s=true) (b:List Bnd) (a:Option Addr) (nb cb:Nat) (hbs:Sl RBnd T w a nb cb b) (hb:kAO b=true) :
 Calls Tryz.prog 47 #[.agg cs.toArray,.slice a nb cb] w fun e w'=>(∃ ds,e= .returned (.tuple #[.agg ds.toArray,.int .i64 (kCD b s)])∧RShp.rd (Fx b T w) w' ds (kFZ b s))∧Below w.heap.size w w':=by
 have HCV:Hid (∀ W,Below w.heap.size w W→Calls Tryz.prog 57 #[.agg cs.toArray] W fun e w'=>e= .returned (.bool true)∧Below W.heap.size W w') :=
  hJ (fun W hW=>hv ▸ kEE (RShp.below h hW) (shp_sz hv))
 have HCB:Hid (∀ W,Below w.heap.size w W→Calls Tryz.prog 46 #[.slice a nb cb] W fun e w'=>e= .returned (.bool true)∧Below W.heap.size W w') :=
  hJ (fun W hW=>kDS b a nb cb W (hbs.below hW) hb)
 obtain ⟨_,rfl,ad,cd,rfl,hds⟩:=h;have HDs:=hJ hds;have HBS:=hJ hbs;have HD:=hJ (kBM hv);have HG:=hJ (kCL hb);have HGood:=hJ (fun (row:Str) (D:List Lin) (q1:kBQ b s=⟨row,D⟩) q2 q3=>subShp_good (b:=b) (s:=s) q1 q2 q3);have HBad:=hJ (fun (i:Nat) (q1:i<s.dims.length) q2=>subShp_bad (b:=b) (s:=s) q1 q2);have HLong:=hJ (fun (row:Str) (D:List Lin) (q1:kBQ b s=⟨row,D⟩) q2=>subShp_long (b:=b) (s:=s) q1 q2);have HRg:=hJ (fun (k:Nat) q1 q2=>subRow_good (b:=b) (s:=s) (k:=k) hb q1 q2);have HRow:Hid (kBQ b s=if s.row.toList.isEmpty then ⟨s.row,[]⟩ else if 0≤kAU b 2 s.row then (b.getD (kAU b 2 s.row).toNat default).row else ⟨s.row,[]⟩):=hJ rfl;have hmd:=hds.small;have hnb:=hbs.small;have hd6:=(kBM hv).1;clear hds hbs hv hb;generalize hnd:s.dims.length=n at *;have HND:=hJ hnd;clear hnd;obtain ⟨B0,ya,yb,hW0⟩:=box2 w 24 [.string s.row,.slice ad n cd] 24 [.string ⟨#[]⟩,.slice none 0 0];have xa0:=box0 ya 0 _ rfl;have xa1:=box0 ya 1 _ rfl;have xb0:=box0 yb 0 _ rfl;have xb1:=box0 yb 1 _ rfl;have bka:Bx _ _ _ _:=ya;have bkb:Bx _ _ _ _:=yb;clear ya yb;have HB4:=hJ bkb;clear bka bkb;go_enter func47,ntmps47
 go_wp2_with fail
 refine (HCV.out _ B0.out).mono ?_;rintro e w1 ⟨rfl,hb1⟩;have hW1:=B0.out.trans (hb1.mono B0.out.size)
 go_wp2_with fail
 refine (HCB.out _ hW1).mono ?_;rintro e w3 ⟨rfl,hb2⟩;have HW3:=hJ (hW1.trans (hb2.mono hW1.size));have g0:=kAF (kAF xa0 _ hb1) _ hb2;have g1:=kAF (kAF xa1 _ hb1) _ hb2;have HX43:=hJ ((HB4.out.below hb1 HB4.out.lt).below hb2 (HB4.out.below hb1 HB4.out.lt).lt);have hl43:=HX43.out.lt;clear xa0 xa1 xb0 xb1 hb1 hb2 hW1 HB4
 have HFnd:Hid (0≤kAU b 2 s.row→∃ k:Nat,kAU b 2 s.row=(k:Int)∧k<b.length):=hJ (fun q=>by
  unfold kAU idx at q ⊢;by_cases ha:b.any (isB 2 s.row)=true
  · rw [if_pos ha] at q ⊢
    exact ⟨b.findIdx (isB 2 s.row),rfl,(kGN ha).1⟩
  · rw [if_neg ha] at q;omega)
 go_wp2_with fail
 go_loopw [6,7] (fun v i wr=>∃ (k:Nat) (v0:Value),k≤n∧i= .int .i64 k∧v0=v∧Hid (∀ i,i<k→kAB (kAD b (s.dims.getD i default))=true)∧Hid (Own RLin 45 (fun q=>w3.heap.size≤q) wr w3.heap.size v ((s.dims.take k).map (kAD b)))∧Below w3.heap.size w3 wr) (fun _ i _=>n - (intOf i).toNat)
 case atStart=>exact ⟨0,_,Nat.zero_le _,rfl,rfl,hJ (fun i hi=>absurd hi (by omega)),hJ (Own.nil _ _ _ _ _),Below.refl _ _⟩
 case round =>
  obtain ⟨k,v0,hk,rfl,rfl,HT,HO,hB⟩:=hrel;have g1w:=kAF g1 _ hB;by_cases hlt:k<n
  · obtain ⟨b1,off,rfl,hbW,_⟩:=HDs.out.form k hlt
    have HBw:=hJ (HW3.out.trans (hB.mono HW3.out.size));obtain ⟨t,hr,⟨at_,ct,rfl,hts⟩,c0,c1⟩:=(HDs.out.below HBw.out).lin k hlt;have HK:Hid (k<s.dims.length):=hJ (by rw [HND.out];exact hlt);have HNext:Hid ((s.dims.take (k+1)).map (kAD b)=(s.dims.take k).map (kAD b)++[kAD b (s.dims.getD k default)]):=hJ (by rw [kAY HK.out,List.map_append];rfl);have hkl:((s.dims.take k).map (kAD b)).length=k:=by rw [List.length_map,List.length_take,HND.out];omega
    have HBk:=hJ (HBad.out k hlt);have HUp:=hJ (fun q=>upto HT.out (p:=fun j=>kAB (kAD b (s.dims.getD j default))=true) q);have HXv:=hJ (HD.out.2 _ (kAJ HK.out));have HCx:=hJ (ref04_Subst hr HXv.out b _ nb cb (HBS.out.below HBw.out) HG.out);clear hr hts;generalize s.dims.getD k default=x at *;generalize (s.dims.take k).map (kAD b)=lk at *;have hX43w:=HX43.out.below hB hl43;by_cases hvx:kAB (kAD b x)=true
    · obtain ⟨e1,e2⟩:=kET hvx
      rw [e1,e2] at HCx;have HUp:=hJ (HUp.out hvx);clear e1 e2 hvx
      go_wp2_with fail
      refine HCx.out.mono ?_;rintro e w5 ⟨⟨_,rfl,hr5⟩,hb5⟩;obtain ⟨_,rfl,a5,c5,rfl,hs5⟩:=hr5;have HB5:Hid (Below wr.heap.size wr w5):=hJ hb5;have hsz5:w3.heap.size≤w5.heap.size:=by have h1:=HB5.out.size;have h2:=hB.size;omega
      have HRY:Hid (RLin.rd (fun q=>w3.heap.size≤q∧v0.ownBlock≠some q) w5 [.int .i64 (kAD b x).const,.slice a5 (kAD b x).terms.length c5] (kAD b x)):=hJ ⟨_,rfl,a5,c5,rfl,hs5.mono (fun q hq _=>by
       have hq:wr.heap.size≤q:=hq;refine ⟨by have:=hB.size;omega,fun e=>?_⟩;have:=(HO.out.block e).2;omega)⟩
      go_wp2_with (at_builtin;refine kAZ kBP rfl _ _ rfl w3.heap.size _ _ rfl (((HO.out.below HB5.out).alloc _).alloc _) _ (kAD b x) [.int .i64 (kAD b x).const,.slice a5 (kAD b x).terms.length c5] rfl (RLin.below HRY.out (((Below.refl _ _).alloc (Nat.le_refl _) _).alloc (by simp) _)) (kA3 45 (by (simp only [kAI,kAH,Array.getElem?_push,Array.size_push];simp))) (by omega) (by unfold maxLen;omega) (by simp;omega) ?_;intro v9 w9 hown9 hb9 hk9)
      go_roundw
      case rel=>exact ⟨k+1,_,by omega,by go_num,rfl,HUp,hJ (by rw [HNext.out];exact hown9),(hB.trans (HB5.out.mono hB.size)).trans ((((Below.refl _ _).alloc hsz5 _).alloc (by simp;omega) _).trans hb9)⟩
      case measure=>simp [intOf];omega
    · have hvx:kAB (kAD b x)=false:=by simpa using hvx
      obtain ⟨e1,e2⟩:=lim_bad hvx;rw [e1,e2] at HCx;obtain ⟨z1,z2⟩:=HBk.out hvx;have HZ1:=hJ z1;have HZ2:=hJ z2;clear e1 e2 hvx z1 z2
      go_wp2_with fail
      refine HCx.out.mono ?_;rintro e w5 ⟨⟨_,rfl,hr5⟩,hb5⟩;obtain ⟨_,rfl,a5,c5,rfl,hs5⟩:=hr5;have HB5:Hid (Below wr.heap.size wr w5):=hJ hb5;have HX45:=hJ (hX43w.below HB5.out hX43w.lt);have hx45:=HX45.out.lt;have u0:=HX45.out.cell 0 _ rfl;have u1:=HX45.out.cell 1 _ rfl;have u2:=HX45.out.fz 0;have u3:=HX45.out.fz 1;have HX60:=hJ ((HX45.out.set 0 (.string ⟨#[]⟩)).set 1 (.slice none 0 0));have s0:=HX60.out.cell 0 _ rfl;have s1:=HX60.out.cell 1 _ rfl
      go_wp2_with fail
      refine bodyPost_ret (v:=.tuple #[.agg #[.string ⟨#[]⟩,.slice none 0 0],.int .i64 3]) (by simp [results,results47,go_sem,s0,s1,hx45]) rfl ?_;refine ⟨⟨[.string ⟨#[]⟩,.slice none 0 0],by rw [HZ2.out],by rw [HZ1.out];exact ⟨_,rfl,none,0,rfl,Sl.empty _ _ _⟩⟩,?_⟩;exact (((HBw.out.trans (HB5.out.mono HBw.out.size)).setCell (by show _≤w.heap.size+1;omega) _).setCell (by show _≤w.heap.size+1;omega) _).alloc (by simp;omega) _
  · obtain rfl:k=n:=by omega
    have HAll:Hid ((s.dims.take k).map (kAD b)=s.dims.map (kAD b)):=hJ (by rw [List.take_of_length_le (by rw [HND.out];exact Nat.le_refl _)]);rw [HAll.out] at HO;obtain ⟨av,cv,rfl,hsv⟩:=HO.out.sl;have hkl:(s.dims.map (kAD b)).length=k:=by rw [List.length_map,HND.out]
    rw [hkl] at hsv ⊢;have HBw:=hJ (HW3.out.trans (hB.mono HW3.out.size));have g0w:=kAF g0 _ hB;have HCF:=hJ (kC9 b a nb cb wr (HBS.out.below HBw.out) 2 s.row);have HSv:=hJ (hsv.mono (S':=fun q=>w.heap.size+2≤q) (fun q hq _=>by have h9:w3.heap.size≤q:=(hq.elim id id);omega));have hX43w:=hJ (HX43.out.below hB hl43);have hx43:=hX43w.out.lt;have HKL:=hJ hkl;clear hsv hkl;by_cases he:s.row.toList.isEmpty=true
    · obtain ⟨D,hD⟩:∃ D:List Lin,D=[]:=⟨_,rfl⟩
      have HR:Hid (kBQ b s=⟨s.row,D⟩):=hJ (by rw [hD,HRow.out,if_pos he]);have HDl:Hid (D.length=0):=hJ (by rw [hD];rfl);obtain ⟨nd,hnd⟩:∃ nd:Nat,nd=0:=⟨_,rfl⟩
      have h6:nd+k≤6:=by omega
      have HCM:Hid (Calls Tryz.prog 112 #[.string s.row,.slice none 0 0,.slice av k cv] wr fun e w'=>(∃ a5 c5,e=Ending.returned (.tuple #[.agg #[.string s.row,.slice a5 (nd+k) c5],.int .i64 0])∧Sl RLin (fun q=>(((¬kCI b∧T q∧q<w.heap.size)∨w.heap.size+2≤q)∧q<wr.heap.size)∨wr.heap.size≤q) w' a5 (nd+k) c5 (D++s.dims.map (kAD b)))∧Below wr.heap.size wr w'):=hJ (by
       rw [hnd,hD];exact kHO (T:=fun q=>¬kCI b∧T q∧q<w.heap.size) s.row none 0 0 [] (s.dims.map (kAD b)) av k cv wr (Sl.empty _ _ _) HSv.out (by omega))
      rw [← hnd] at HDl;obtain ⟨z1,z2⟩:=HGood.out _ _ HR.out HT.out (by rw [HDl.out];exact h6);have HZ1:=hJ z1;have HZ2:=hJ z2;clear HRow z1 z2;generalize kAU b 2 s.row=q at *
      go_wp2_with fail
      refine (HCF.out).mono ?_;rintro e _ ⟨rfl,rfl⟩
      go_wp2_with fail
      clear hD hnd;refine HCM.out.mono ?_;rintro e w5 ⟨⟨a5,c5,rfl,hs5⟩,hb5⟩;have HX45:=hJ (hX43w.out.below hb5 hx43);have u0:=HX45.out.cell 0 _ rfl;have u1:=HX45.out.cell 1 _ rfl;have u2:=HX45.out.fz 0;have u3:=HX45.out.fz 1;have HS5:=hJ hs5;clear hs5;have HX60:=hJ ((HX45.out.set 0 (.string s.row)).set 1 (.slice a5 (nd+k) c5));have s0:=HX60.out.cell 0 _ rfl;have s1:=HX60.out.cell 1 _ rfl
      (try simp only []);repeat (first | go_values | go_skip | go_guarded | go_step | go_upon)
      refine bodyPost_ret (v:=.tuple #[.agg #[.string s.row,.slice a5 (nd+k) c5],.int .i64 0]) (by simp [results,results47,go_sem,s0,s1]) rfl ?_;refine ⟨⟨[.string s.row,.slice a5 (nd+k) c5],by rw [HZ2.out],?_⟩,?_⟩
      · rw [HZ1.out]
        have hlen:(D++s.dims.map (kAD b)).length=nd+k:=by rw [List.length_append,HDl.out,HKL.out]
        refine ⟨_,rfl,a5,c5,by rw [hlen],?_⟩;have h1:=HS5.out;rw [show ({ row:=s.row,dims:=D++s.dims.map (kAD b) }:Shp).dims.length=nd+k from hlen]
        have hss:∀ q,((((¬kCI b∧T q∧q<w.heap.size)∨w.heap.size+2≤q)∧q<wr.heap.size)∨wr.heap.size≤q)→(¬kCI b∧T q∧q<w.heap.size)∨w.heap.size+2≤q:=fun q hq=>by
         rcases hq with hq | hq
         · exact hq.1
         · exact .inr (by omega)
        refine (h1.frame fun q hq _=>?_).mono (fun q hq _=>(hss q hq).elim .inl (fun r=>.inr (by omega)))
        have hne:w.heap.size+1≠q:=by
         rcases hss q hq with r | r
         · have:=r.2.2;omega
         · omega
        rw [kAA hne,kAA hne]
      · exact ((HBw.out.trans (hb5.mono HBw.out.size)).setCell (by show _≤w.heap.size+1;omega) _).setCell (by show _≤w.heap.size+1;omega) _
    · have he2:s.row.toList.isEmpty=false:=by simpa using he
      by_cases hq:0≤kAU b 2 s.row
      · obtain ⟨kk,hkk,hkl⟩:=HFnd.out hq
        have hkn:kk<nb:=by rw [← HBS.out.len];exact hkl
        have hgood:=HRg.out kk hkk hkl;have HR0:Hid (kBQ b s=(b.getD kk default).row):=hJ (by rw [HRow.out,if_neg he,if_pos hq,hkk];rfl);have hpd:kCI b→(b.getD kk default).row.dims=[]:=fun h=>h _ (kAJ hkl)
        rw [hkk] at HCF;clear hq he HFnd HRow hkk;obtain ⟨bb,boff,rfl,hbb,hSb⟩:=HBS.out.form kk hkn;obtain ⟨td,dd,hr,⟨⟨at1,ct1,rfl,_⟩,⟨ad1,cd1,rfl,hrd⟩⟩,e0,e1,e2,e3,e4,e5,e6⟩:=(((HBS.out.mono (S':=fun q=>T q∧q<w.heap.size) (fun q h1 h2=>⟨h1,h2⟩))).below HBw.out).bnd kk hkn;obtain ⟨hg6,hgd⟩:=kBM hgood;have HR:Hid (kBQ b s=⟨(b.getD kk default).row.row,(b.getD kk default).row.dims⟩):=hJ HR0.out;clear hr e0 e1 e2 e3 e6 hgood hgd HR0;generalize (b.getD kk default).row.row=rr at *;generalize (b.getD kk default).row.dims=D at *;generalize hnd:D.length=nd at *;have HDl:=hJ hnd
        have HRd:Hid (Sl RLin (fun q=>¬kCI b∧T q∧q<w.heap.size) wr ad1 nd cd1 D):=hJ (by
         by_cases hp:kCI b
         · have hD0:=hpd hp
           subst hD0;exact ⟨hrd.len,hrd.cap,hrd.max,hrd.nil,fun i x hx=>by simp at hx⟩
         · exact hrd.mono (fun q h1 _=>⟨hp,h1⟩))
        clear hnd hrd hpd;have hkn2:(kk:Int)<(nb:Int):=by omega
        have m0:=hX43w.out.cell 0 _ rfl;by_cases h6:nd+k≤6
        · obtain ⟨z1,z2⟩:=HGood.out _ _ HR.out HT.out (by rw [HDl.out];exact h6)
          have HZ1:=hJ z1;have HZ2:=hJ z2
          have HCM:=hJ (fun (W':World) (hW':Below wr.heap.size wr W')=>(kHO rr ad1 nd cd1 D (s.dims.map (kAD b)) av k cv W' (HRd.out.below hW') (HSv.out.below hW') h6).mono fun e w' ⟨⟨a5,c5,he,hs⟩,hb⟩=>(⟨⟨a5,c5,he,hs.mono (fun q h1 _=>by
           rcases h1 with h1 | h1
           · by_cases hqw:q<wr.heap.size
             · exact .inl ⟨h1.1,hqw⟩
             · exact .inr (by omega)
           · exact .inr (by have:=hW'.size;omega))⟩,hb⟩:(∃ a5 c5,e=Ending.returned (.tuple #[.agg #[.string rr,.slice a5 (nd+k) c5],.int .i64 0])∧Sl RLin (fun q=>(((¬kCI b∧T q∧q<w.heap.size)∨w.heap.size+2≤q)∧q<wr.heap.size)∨wr.heap.size≤q) w' a5 (nd+k) c5 (D++s.dims.map (kAD b)))∧Below W'.heap.size W' w'))
          clear z1 z2
          go_wp2_with fail
          refine (HCF.out).mono ?_;rintro e _ ⟨rfl,rfl⟩
          go_wp2_with fail
          go_region_held3 (fun w'=>w'.cell? ⟨bb,boff+kk * 7+4,none⟩=some (.string rr)∧w'.cell? ⟨bb,boff+kk * 7+5,none⟩=some (.slice ad1 nd cd1)) (first | exact ⟨p0,p1⟩ | exact ⟨(World.cell?_setCell_far _ _ _ _ (by simp only [ne_eq];omega)).trans ((World.cell?_setCell_far _ _ _ _ (by simp only [ne_eq];omega)).trans p0),(World.cell?_setCell_far _ _ _ _ (by simp only [ne_eq];omega)).trans ((World.cell?_setCell_far _ _ _ _ (by simp only [ne_eq];omega)).trans p1)⟩ | go_keep) (first
           | (go_at_call 112
              refine (HCM.out _ (by first | exact Below.refl _ _ | exact (Below.refl _ _).drew)).mono ?_;rintro e w5 ⟨⟨a5,c5,rfl,hs5⟩,hb5⟩;have hb5:Below wr.heap.size wr w5:=(Below.refl _ _).drew.trans hb5;have HX45:=hJ (hX43w.out.below hb5 hx43);have u0:=HX45.out.cell 0 _ rfl;have u1:=HX45.out.cell 1 _ rfl;have u2:=HX45.out.fz 0;have u3:=HX45.out.fz 1;have p0:=(hb5.cell (kBY e4)).trans e4;have p1:=(hb5.cell (kBY e5)).trans e5))
          have HS5:=hJ hs5;clear hs5;have HX60:=hJ ((HX45.out.set 0 (.string rr)).set 1 (.slice a5 (nd+k) c5));have s0:=HX60.out.cell 0 _ rfl;have s1:=HX60.out.cell 1 _ rfl
          (try simp only []);repeat (first | go_values | go_skip | go_guarded | go_step | go_upon)
          refine bodyPost_ret (v:=.tuple #[.agg #[.string rr,.slice a5 (nd+k) c5],.int .i64 0]) (by simp [results,results47,go_sem,s0,s1]) rfl ?_;refine ⟨⟨[.string rr,.slice a5 (nd+k) c5],by rw [HZ2.out],?_⟩,?_⟩
          · rw [HZ1.out]
            have hlen:(D++s.dims.map (kAD b)).length=nd+k:=by rw [List.length_append,HDl.out,HKL.out]
            refine ⟨_,rfl,a5,c5,by rw [hlen],?_⟩;have h1:=HS5.out;rw [show ({ row:=rr,dims:=D++s.dims.map (kAD b) }:Shp).dims.length=nd+k from hlen]
            have hss:∀ q,((((¬kCI b∧T q∧q<w.heap.size)∨w.heap.size+2≤q)∧q<wr.heap.size)∨wr.heap.size≤q)→(¬kCI b∧T q∧q<w.heap.size)∨w.heap.size+2≤q:=fun q hq=>by
             rcases hq with hq | hq
             · exact hq.1
             · exact .inr (by omega)
            refine (h1.frame fun q hq _=>?_).mono (fun q hq _=>(hss q hq).elim .inl (fun r=>.inr (by omega)))
            have hne:w.heap.size+1≠q:=by
             rcases hss q hq with r | r
             · have:=r.2.2;omega
             · omega
            rw [kAA hne,kAA hne]
          · exact ((HBw.out.trans (hb5.mono HBw.out.size)).setCell (by show _≤w.heap.size+1;omega) _).setCell (by show _≤w.heap.size+1;omega) _
        · obtain ⟨z1,z2⟩:=HLong.out _ _ HR.out (by rw [HDl.out];exact h6)
          have HZ1:=hJ z1;have HZ2:=hJ z2;have hnd6:nd≤6:=hg6;have HCM:=hJ (fun (W':World) (hW':Below wr.heap.size wr W')=>ref11_join_long rr ad1 nd cd1 av k cv W' h6 (by omega));clear z1 z2
          go_wp2_with fail
          refine (HCF.out).mono ?_;rintro e _ ⟨rfl,rfl⟩
          go_wp2_with fail
          go_region_held3 (fun w'=>w'.cell? ⟨bb,boff+kk * 7+4,none⟩=some (.string rr)∧w'.cell? ⟨bb,boff+kk * 7+5,none⟩=some (.slice ad1 nd cd1)) (first | exact ⟨p0,p1⟩ | exact ⟨(World.cell?_setCell_far _ _ _ _ (by simp only [ne_eq];omega)).trans ((World.cell?_setCell_far _ _ _ _ (by simp only [ne_eq];omega)).trans p0),(World.cell?_setCell_far _ _ _ _ (by simp only [ne_eq];omega)).trans ((World.cell?_setCell_far _ _ _ _ (by simp only [ne_eq];omega)).trans p1)⟩ | go_keep) (first
           | (go_at_call 112
              refine (HCM.out _ (by first | exact Below.refl _ _ | exact (Below.refl _ _).drew)).mono ?_;rintro e w5 ⟨rfl,hb5⟩;have hb5:Below wr.heap.size wr w5:=(Below.refl _ _).drew.trans hb5;have HX45:=hJ (hX43w.out.below hb5 hx43);have u0:=HX45.out.cell 0 _ rfl;have u1:=HX45.out.cell 1 _ rfl;have u2:=HX45.out.fz 0;have u3:=HX45.out.fz 1;have p0:=(hb5.cell (kBY e4)).trans e4;have p1:=(hb5.cell (kBY e5)).trans e5))
          have HX60:=hJ ((HX45.out.set 0 (.string ⟨#[]⟩)).set 1 (.slice none 0 0));have s0:=HX60.out.cell 0 _ rfl;have s1:=HX60.out.cell 1 _ rfl
          (try simp only []);repeat (first | go_values | go_skip | go_guarded | go_step | go_upon)
          refine bodyPost_ret (v:=.tuple #[.agg #[.string ⟨#[]⟩,.slice none 0 0],.int .i64 3]) (by simp [results,results47,go_sem,s0,s1]) rfl ?_;refine ⟨⟨[.string ⟨#[]⟩,.slice none 0 0],by rw [HZ2.out],by rw [HZ1.out];exact ⟨_,rfl,none,0,rfl,Sl.empty _ _ _⟩⟩,?_⟩;exact ((HBw.out.trans (hb5.mono HBw.out.size)).setCell (by show _≤w.heap.size+1;omega) _).setCell (by show _≤w.heap.size+1;omega) _
      · obtain ⟨D,hD⟩:∃ D:List Lin,D=[]:=⟨_,rfl⟩
        have HR:Hid (kBQ b s=⟨s.row,D⟩):=hJ (by rw [hD,HRow.out,if_neg he,if_neg hq]);have HDl:Hid (D.length=0):=hJ (by rw [hD];rfl);obtain ⟨nd,hnd⟩:∃ nd:Nat,nd=0:=⟨_,rfl⟩
        have h6:nd+k≤6:=by omega
        have HCM:Hid (Calls Tryz.prog 112 #[.string s.row,.slice none 0 0,.slice av k cv] wr fun e w'=>(∃ a5 c5,e=Ending.returned (.tuple #[.agg #[.string s.row,.slice a5 (nd+k) c5],.int .i64 0])∧Sl RLin (fun q=>(((¬kCI b∧T q∧q<w.heap.size)∨w.heap.size+2≤q)∧q<wr.heap.size)∨wr.heap.size≤q) w' a5 (nd+k) c5 (D++s.dims.map (kAD b)))∧Below wr.heap.size wr w'):=hJ (by
         rw [hnd,hD];exact kHO (T:=fun q=>¬kCI b∧T q∧q<w.heap.size) s.row none 0 0 [] (s.dims.map (kAD b)) av k cv wr (Sl.empty _ _ _) HSv.out (by omega))
        rw [← hnd] at HDl;obtain ⟨z1,z2⟩:=HGood.out _ _ HR.out HT.out (by rw [HDl.out];exact h6);have HZ1:=hJ z1;have HZ2:=hJ z2;have hq2:kAU b 2 s.row<0:=by omega
        clear hq he HFnd HRow z1 z2;generalize kAU b 2 s.row=q at *
        go_wp2_with fail
        refine (HCF.out).mono ?_;rintro e _ ⟨rfl,rfl⟩
        go_wp2_with fail
        clear hD hnd;refine HCM.out.mono ?_;rintro e w5 ⟨⟨a5,c5,rfl,hs5⟩,hb5⟩;have HX45:=hJ (hX43w.out.below hb5 hx43);have u0:=HX45.out.cell 0 _ rfl;have u1:=HX45.out.cell 1 _ rfl;have u2:=HX45.out.fz 0;have u3:=HX45.out.fz 1;have HS5:=hJ hs5;clear hs5;have HX60:=hJ ((HX45.out.set 0 (.string s.row)).set 1 (.slice a5 (nd+k) c5));have s0:=HX60.out.cell 0 _ rfl;have s1:=HX60.out.cell 1 _ rfl
        (try simp only []);repeat (first | go_values | go_skip | go_guarded | go_step | go_upon)
        refine bodyPost_ret (v:=.tuple #[.agg #[.string s.row,.slice a5 (nd+k) c5],.int .i64 0]) (by simp [results,results47,go_sem,s0,s1]) rfl ?_;refine ⟨⟨[.string s.row,.slice a5 (nd+k) c5],by rw [HZ2.out],?_⟩,?_⟩
        · rw [HZ1.out]
          have hlen:(D++s.dims.map (kAD b)).length=nd+k:=by rw [List.length_append,HDl.out,HKL.out]
          refine ⟨_,rfl,a5,c5,by rw [hlen],?_⟩;have h1:=HS5.out;rw [show ({ row:=s.row,dims:=D++s.dims.map (kAD b) }:Shp).dims.length=nd+k from hlen]
          have hss:∀ q,((((¬kCI b∧T q∧q<w.heap.size)∨w.heap.size+2≤q)∧q<wr.heap.size)∨wr.heap.size≤q)→(¬kCI b∧T q∧q<w.heap.size)∨w.heap.size+2≤q:=fun q hq=>by
           rcases hq with hq | hq
           · exact hq.1
           · exact .inr (by omega)
          refine (h1.frame fun q hq _=>?_).mono (fun q hq _=>(hss q hq).elim .inl (fun r=>.inr (by omega)))
          have hne:w.heap.size+1≠q:=by
           rcases hss q hq with r | r
           · have:=r.2.2;omega
           · omega
          rw [kAA hne,kAA hne]
        · exact ((HBw.out.trans (hb5.mono HBw.out.size)).setCell (by show _≤w.heap.size+1;omega) _).setCell (by show _≤w.heap.size+1;omega) _
theorem kHI {x:Typ} (h:kAE x=true):kAG x.shape=true:=by unfold kAE at h;rw [Bool.and_eq_true] at h;exact h.2
theorem kCM {b:List Bnd} {x:Typ} (h:kAX b x.shape=true):kG8 b x=kAS b x∧kCD b x.shape=0∧kFZ b x.shape=kFJ b x.shape:=by
 unfold kG8 kCD kFZ;rw [h];exact ⟨rfl,rfl,rfl⟩
theorem kBI {b:List Bnd} {x:Typ} (h:kAX b x.shape=false):kG8 b x=kBN∧kCD b x.shape=3∧kFZ b x.shape=kEF:=by
 unfold kG8 kCD kFZ;rw [h];exact ⟨rfl,rfl,rfl⟩
theorem find_nat {b:List Bnd} {k:Int} {v:Str} (q:0≤kAU b k v):∃ i:Nat,kAU b k v=(i:Int)∧i<b.length:=by
 unfold kAU idx at q ⊢;by_cases ha:b.any (isB k v)=true
 · rw [if_pos ha] at q ⊢
   exact ⟨b.findIdx (isB k v),rfl,(kGN ha).1⟩
 · rw [if_neg ha] at q;omega
theorem Sl.set {α :Type} {R:Rep α} {S:Blk} {w:World} {a:Option Addr} {n c:Nat} {l:List α} (h:Sl R S w a n c l) {ad:Addr} {u:Value} (hne:∀ q,S q→ad.block≠q):Sl R S (w.setCell ad u) a n c l:=h.frame (fun q hq _=>kAA (hne q hq))
theorem types_Subst {S T:Blk} {x:Typ} {cs:List Value} {w:World} (h:RTyp.rd S w cs x) (hv:kAE x=true) (b:List Bnd) (a:Option Addr) (nb cb:Nat) (hbs:Sl RBnd T w a nb cb b) (hb:kAO b=true) (E:Env w) :
 Calls Tryz.prog 11 #[.agg cs.toArray,.slice a nb cb] w fun e w'=>(∃ ds,e= .returned (.tuple #[.agg ds.toArray,.int .i64 (kCD b x.shape)])∧RTyp.rd (fun k=>w.heap.size≤k) w' ds (kG8 b x))∧Below w.heap.size w w':=by
 have hvs:=kHI hv
 have HCV:Hid (∀ W,Below w.heap.size w W→Calls Tryz.prog 26 #[.agg cs.toArray] W fun e w'=>e= .returned (.bool true)∧Below W.heap.size W w') :=
  hJ (fun W hW=>hv ▸ kCG (RTyp.below h hW) (typ_sz hv) (E.below hW))
 have HCB:Hid (∀ W,Below w.heap.size w W→Calls Tryz.prog 43 #[.slice a nb cb] W fun e w'=>e= .returned (.bool true)∧Below W.heap.size W w') :=
  hJ (fun W hW=>kDR b a nb cb W (hbs.below hW) hb (E.below hW))
 have HCS:=hJ (fun (W:World) (hW:Below w.heap.size w W)=>shape_Subst (S:=S) (s:=x.shape) (cs:=(cs.drop 1)) (w:=W) (by obtain ⟨t,rfl,ht⟩:=h;exact ⟨t,rfl,ht⟩ |> fun q=>RShp.below q hW) hvs b a nb cb (hbs.below hW) hb (E.below hW));obtain ⟨_,rfl,ad,cd,rfl,hds⟩:=h;have HBS:=hJ hbs;clear hds hbs hv hb;obtain ⟨B0,ya,yb,hW0⟩:=box2 w 26 [.string x.elem,.string x.shape.row,.slice ad x.shape.dims.length cd] 26 [.string ⟨#[]⟩,.string ⟨#[]⟩,.slice none 0 0];have xa0:=box0 ya 0 _ rfl;have xa1:=box0 ya 1 _ rfl;have xa2:=box0 ya 2 _ rfl;have xb0:=box0 yb 0 _ rfl;have xb1:=box0 yb 1 _ rfl;have xb2:=box0 yb 2 _ rfl;have bka:Bx _ _ _ _:=ya;have bkb:Bx _ _ _ _:=yb;clear ya yb;generalize x.shape.dims.length=nd at *;have HA0:=hJ bka;have HR0:=hJ bkb;clear bka bkb;go_enter func11,ntmps11
 go_wp2_with fail
 refine (HCV.out _ B0.out).mono ?_;rintro e w1 ⟨rfl,hb1⟩;have hW1:=B0.out.trans (hb1.mono B0.out.size)
 go_wp2_with fail
 refine (HCB.out _ hW1).mono ?_;rintro e w2 ⟨rfl,hb2⟩;have HW:=hJ (hW1.trans (hb2.mono hW1.size));have HA2:=hJ ((HA0.out.below hb1 HA0.out.lt).below hb2 (HA0.out.below hb1 HA0.out.lt).lt);have HR2:=hJ ((HR0.out.below hb1 HR0.out.lt).below hb2 (HR0.out.below hb1 HR0.out.lt).lt);have y0:=HA2.out.cell 0 _ rfl;have y1:=HA2.out.cell 1 _ rfl;have y2:=HA2.out.cell 2 _ rfl;have hl2:=HR2.out.lt;clear xa0 xa1 xa2 xb0 xb1 xb2 hb1 hb2 hW1 HR0 HA0 B0 HCV HCB
 go_wp2_with fail
 refine (HCS.out _ HW.out).mono ?_;rintro e w3 ⟨⟨_,rfl,hr3⟩,hb3⟩;obtain ⟨_,rfl,a5,c5,rfl,hs5⟩:=hr3;have HW3:=hJ (HW.out.trans (hb3.mono HW.out.size));have HA3:=hJ (HA2.out.below hb3 HA2.out.lt);have HR3:=hJ (HR2.out.below hb3 HR2.out.lt);have HS3:=hJ (hs5.mono (S':=fun k=>w.heap.size+2≤k∧k<w3.heap.size) (fun q hq hlt=>by have hq:w2.heap.size≤q:=hq;exact ⟨by omega,hlt⟩));have hl3:=HR3.out.lt;clear hs5 hb3 HA2 HR2 y0 y1 y2 HCS HW hW0;cases hok:kAX b x.shape with
 | false =>
    have HF:Hid (kG8 b x=kBN∧kCD b x.shape=3):=hJ ⟨(kBI hok).1,(kBI hok).2.1⟩;have u0:=HR3.out.fz 0;have u1:=HR3.out.fz 1;have u2:=HR3.out.fz 2;have v0:=HR3.out.cell 0 _ rfl;have v1:=HR3.out.cell 1 _ rfl;have v2:=HR3.out.cell 2 _ rfl;have HX60:=hJ (((HR3.out.set 0 (.string ⟨#[]⟩)).set 1 (.string ⟨#[]⟩)).set 2 (.slice none 0 0));have s0:=HX60.out.cell 0 _ rfl;have s1:=HX60.out.cell 1 _ rfl;have s2:=HX60.out.cell 2 _ rfl;rw [(kBI hok).2.2] at HS3 ⊢;rw [(kBI hok).2.1];clear hok
    go_wp2_with fail
    refine bodyPost_ret (v:=.tuple #[.agg #[.string ⟨#[]⟩,.string ⟨#[]⟩,.slice none 0 0],.int .i64 3]) (by simp [results,results11,go_sem,s0,s1,s2,hl3]) rfl ?_;refine ⟨⟨_,by rw [HF.out.2],by rw [HF.out.1];exact ⟨_,rfl,none,0,rfl,Sl.empty _ _ _⟩⟩,?_⟩;exact (((HW3.out.setCell (by show _≤w.heap.size+1;omega) _).setCell (by show _≤w.heap.size+1;omega) _).setCell (by show _≤w.heap.size+1;omega) _).alloc (by simp;omega) _
 | true =>
    obtain ⟨z1,z2,z3⟩:=kCM hok;rw [z3] at HS3 ⊢;have HE:=hJ z2;rw [z2];have HF:=hJ z1;clear z1 z2 z3 hok;obtain ⟨er,ed⟩:∃ q,q=kFJ b x.shape:=⟨_,rfl⟩
    have HSh:Hid ((kAS b x).elem=kF5 b x.elem∧(kAS b x).shape=er):=hJ ⟨rfl,ed.symm⟩;rw [← ed] at HS3 ⊢;clear ed;have hA3:Below w3.heap.size w3 (w3.alloc (.cells #[.string er.row,.slice a5 er.dims.length c5] 24)):=(Below.refl _ _).alloc (Nat.le_refl _) _;have HW4:=hJ (HW3.out.trans (hA3.mono HW3.out.size));have HCF:=hJ (kE0 b a nb cb _ (HBS.out.below HW4.out) 3 x.elem);have y9:=HA3.out.cell 0 _ rfl;have hl9:=HA3.out.lt
    go_wp2_with fail
    refine HCF.out.mono ?_;rintro e w6 ⟨rfl,hb6⟩;have HW6:=hJ (HW4.out.trans (hb6.mono HW4.out.size));have HA6:=hJ ((HA3.out.alloc _).below hb6 (HA3.out.alloc _).lt);have HR6:=hJ ((HR3.out.alloc _).below hb6 (HR3.out.alloc _).lt);have HT6:=hJ ((Bx.fresh w3 24 [.string er.row,.slice a5 er.dims.length c5]).below hb6 (Bx.fresh _ _ _).lt);have HS6:=hJ ((HS3.out.below hA3).below hb6);have hl6:=HR6.out.lt;have ha6:=HA6.out.lt;have ht6:=HT6.out.lt;have u0:=HR6.out.fz 0;have u1:=HR6.out.fz 1;have u2:=HR6.out.fz 2;have v0:=HR6.out.cell 0 _ rfl;have v1:=HR6.out.cell 1 _ rfl;have v2:=HR6.out.cell 2 _ rfl;have t0:=HT6.out.cell 0 _ rfl;have t1:=HT6.out.cell 1 _ rfl;clear hb6 y9 hl9 HA3 HR3 HS3 hA3 HW4;have y0:=HA6.out.cell 0 _ rfl;by_cases hq:0≤kAU b 3 x.elem
    · obtain ⟨kk,hkk,hkl⟩:=find_nat hq
      have hkn:kk<nb:=by rw [← HBS.out.len];exact hkl
      have HEl:Hid (kF5 b x.elem=(b.getD kk default).elem):=hJ (by unfold kF5;rw [if_pos hq,hkk];rfl);rw [hkk];clear hq hkk;obtain ⟨bb,boff,rfl,hbb,hSb⟩:=HBS.out.form kk hkn;obtain ⟨td,dd,hr,⟨⟨at1,ct1,rfl,_⟩,⟨ad1,cd1,rfl,hrd⟩⟩,e0,e1,e2,e3,e4,e5,e6⟩:=(HBS.out.below HW6.out).bnd kk hkn;generalize (b.getD kk default).elem=ee at *;clear hr e0 e1 e2 e3 e4 e5 hrd;have r0:=HA6.out.fz 0;have hkn2:(kk:Int)<(nb:Int):=by omega
      have HR7:=hJ (HR6.out.other (a:=⟨w.heap.size,0,none⟩) (u:=.string ee) (by show w.heap.size≠_;omega));have HX60:=hJ (((HR7.out.set 0 (.string ee)).set 1 (.string er.row)).set 2 (.slice a5 er.dims.length c5));have s0:=HX60.out.cell 0 _ rfl;have s1:=HX60.out.cell 1 _ rfl;have s2:=HX60.out.cell 2 _ rfl
      go_wp2_with fail
      refine bodyPost_ret (v:=.tuple #[.agg #[.string ee,.string er.row,.slice a5 er.dims.length c5],.int .i64 0]) (by simp [results,results11,go_sem,s0,s1,s2,hl6]) rfl ?_;refine ⟨⟨[.string ee,.string er.row,.slice a5 er.dims.length c5],by rw [HE.out],?_⟩,?_⟩
      · rw [HF.out]
        refine ⟨.slice a5 er.dims.length c5,by rw [HSh.out.1,HSh.out.2,HEl.out],a5,c5,by rw [HSh.out.2],?_⟩;rw [HSh.out.2];refine Sl.mono (S:=fun k=>w.heap.size+2≤k∧k<w3.heap.size) ?_ (fun q hq _=>by have hq:=hq.1;omega)
        repeat (first | exact HS6.out | refine Sl.set ?_ (fun q hq=>by have hz:=HW3.out.size;have hq:w.heap.size+2≤q∧q<w3.heap.size:=hq;first | (show w.heap.size+1≠q;omega) | (show w.heap.size≠q;omega) | (show w3.heap.size+1≠q;omega)))
      · repeat (first | exact HW6.out | refine Below.setCell ?_ (by first | (show _≤w.heap.size+1;omega) | exact Nat.le_refl _ | (show _≤w3.heap.size+1;omega)) _)
    · have hq2:kAU b 3 x.elem<0:=by omega
      have HEl:Hid (kF5 b x.elem=x.elem):=hJ (by unfold kF5;rw [if_neg hq]);clear hq;generalize kAU b 3 x.elem=q at *;have HX60:=hJ (((HR6.out.set 0 (.string x.elem)).set 1 (.string er.row)).set 2 (.slice a5 er.dims.length c5));have s0:=HX60.out.cell 0 _ rfl;have s1:=HX60.out.cell 1 _ rfl;have s2:=HX60.out.cell 2 _ rfl
      go_wp2_with fail
      refine bodyPost_ret (v:=.tuple #[.agg #[.string x.elem,.string er.row,.slice a5 er.dims.length c5],.int .i64 0]) (by simp [results,results11,go_sem,s0,s1,s2,hl6]) rfl ?_;refine ⟨⟨[.string x.elem,.string er.row,.slice a5 er.dims.length c5],by rw [HE.out],?_⟩,?_⟩
      · rw [HF.out]
        refine ⟨.slice a5 er.dims.length c5,by rw [HSh.out.1,HSh.out.2,HEl.out],a5,c5,by rw [HSh.out.2],?_⟩;rw [HSh.out.2];refine Sl.mono (S:=fun k=>w.heap.size+2≤k∧k<w3.heap.size) ?_ (fun q hq _=>by have hq:=hq.1;omega)
        repeat (first | exact HS6.out | refine Sl.set ?_ (fun q hq=>by have hz:=HW3.out.size;have hq:w.heap.size+2≤q∧q<w3.heap.size:=hq;first | (show w.heap.size+1≠q;omega) | (show w.heap.size≠q;omega) | (show w3.heap.size+1≠q;omega)))
      · repeat (first | exact HW6.out | refine Below.setCell ?_ (by first | (show _≤w.heap.size+1;omega) | exact Nat.le_refl _ | (show _≤w3.heap.size+1;omega)) _)
theorem ref12_Subst {S T:Blk} {x:Typ} {cs:List Value} {w:World} (h:RTyp.rd S w cs x) (hv:kAE x=true) (b:List Bnd) (a:Option Addr) (nb cb:Nat) (hbs:Sl RBnd T w a nb cb b) (hb:kAO b=true) :
 Calls Tryz.prog 12 #[.agg cs.toArray,.slice a nb cb] w fun e w'=>(∃ ds,e= .returned (.tuple #[.agg ds.toArray,.int .i64 (kCD b x.shape)])∧RTyp.rd (Fx b T w) w' ds (kG8 b x))∧Below w.heap.size w w':=by
 have hvs:=kHI hv
 have HCV:Hid (∀ W,Below w.heap.size w W→Calls Tryz.prog 27 #[.agg cs.toArray] W fun e w'=>e= .returned (.bool true)∧Below W.heap.size W w') :=
  hJ (fun W hW=>hv ▸ kFO (RTyp.below h hW) (typ_sz hv))
 have HCB:Hid (∀ W,Below w.heap.size w W→Calls Tryz.prog 46 #[.slice a nb cb] W fun e w'=>e= .returned (.bool true)∧Below W.heap.size W w') :=
  hJ (fun W hW=>kDS b a nb cb W (hbs.below hW) hb)
 have HCS:=hJ (fun (W:World) (hW:Below w.heap.size w W)=>ref11_Subst (S:=S) (s:=x.shape) (cs:=(cs.drop 1)) (w:=W) (by obtain ⟨t,rfl,ht⟩:=h;exact ⟨t,rfl,ht⟩ |> fun q=>RShp.below q hW) hvs b a nb cb ((hbs.mono (S':=fun k=>T k∧k<w.heap.size) (fun k h1 h2=>⟨h1,h2⟩)).below hW) hb);obtain ⟨_,rfl,ad,cd,rfl,hds⟩:=h;have HBS:=hJ hbs;clear hds hbs hv hb;obtain ⟨B0,ya,yb,hW0⟩:=box2 w 26 [.string x.elem,.string x.shape.row,.slice ad x.shape.dims.length cd] 26 [.string ⟨#[]⟩,.string ⟨#[]⟩,.slice none 0 0];have xa0:=box0 ya 0 _ rfl;have xa1:=box0 ya 1 _ rfl;have xa2:=box0 ya 2 _ rfl;have xb0:=box0 yb 0 _ rfl;have xb1:=box0 yb 1 _ rfl;have xb2:=box0 yb 2 _ rfl;have bka:Bx _ _ _ _:=ya;have bkb:Bx _ _ _ _:=yb;clear ya yb;generalize x.shape.dims.length=nd at *;have HA0:=hJ bka;have HR0:=hJ bkb;clear bka bkb;go_enter func12,ntmps12
 go_wp2_with fail
 refine (HCV.out _ B0.out).mono ?_;rintro e w1 ⟨rfl,hb1⟩;have hW1:=B0.out.trans (hb1.mono B0.out.size)
 go_wp2_with fail
 refine (HCB.out _ hW1).mono ?_;rintro e w2 ⟨rfl,hb2⟩;have HW:=hJ (hW1.trans (hb2.mono hW1.size));have HA2:=hJ ((HA0.out.below hb1 HA0.out.lt).below hb2 (HA0.out.below hb1 HA0.out.lt).lt);have HR2:=hJ ((HR0.out.below hb1 HR0.out.lt).below hb2 (HR0.out.below hb1 HR0.out.lt).lt);have y0:=HA2.out.cell 0 _ rfl;have y1:=HA2.out.cell 1 _ rfl;have y2:=HA2.out.cell 2 _ rfl;have hl2:=HR2.out.lt;clear xa0 xa1 xa2 xb0 xb1 xb2 hb1 hb2 hW1 HR0 HA0 B0 HCV HCB
 go_wp2_with fail
 refine (HCS.out _ HW.out).mono ?_;rintro e w3 ⟨⟨_,rfl,hr3⟩,hb3⟩;obtain ⟨_,rfl,a5,c5,rfl,hs5⟩:=hr3;have HW3:=hJ (HW.out.trans (hb3.mono HW.out.size));have HA3:=hJ (HA2.out.below hb3 HA2.out.lt);have HR3:=hJ (HR2.out.below hb3 HR2.out.lt);have HS3:=hJ (hs5.mono (S':=fun k=>(¬kCI b∧T k∧k<w.heap.size)∨(w.heap.size+2≤k∧k<w3.heap.size)) (fun q hq hlt=>by rcases hq with hq | hq;exact .inl ⟨hq.1,hq.2.1⟩;exact .inr ⟨by omega,hlt⟩));have hl3:=HR3.out.lt;clear hs5 hb3 HA2 HR2 y0 y1 y2 HCS HW hW0;cases hok:kAX b x.shape with
 | false =>
    have HF:Hid (kG8 b x=kBN∧kCD b x.shape=3):=hJ ⟨(kBI hok).1,(kBI hok).2.1⟩;have u0:=HR3.out.fz 0;have u1:=HR3.out.fz 1;have u2:=HR3.out.fz 2;have v0:=HR3.out.cell 0 _ rfl;have v1:=HR3.out.cell 1 _ rfl;have v2:=HR3.out.cell 2 _ rfl;have HX60:=hJ (((HR3.out.set 0 (.string ⟨#[]⟩)).set 1 (.string ⟨#[]⟩)).set 2 (.slice none 0 0));have s0:=HX60.out.cell 0 _ rfl;have s1:=HX60.out.cell 1 _ rfl;have s2:=HX60.out.cell 2 _ rfl;rw [(kBI hok).2.2] at HS3 ⊢;rw [(kBI hok).2.1];clear hok
    go_wp2_with fail
    refine bodyPost_ret (v:=.tuple #[.agg #[.string ⟨#[]⟩,.string ⟨#[]⟩,.slice none 0 0],.int .i64 3]) (by simp [results,results12,go_sem,s0,s1,s2,hl3]) rfl ?_;refine ⟨⟨_,by rw [HF.out.2],by rw [HF.out.1];exact ⟨_,rfl,none,0,rfl,Sl.empty _ _ _⟩⟩,?_⟩;exact (((HW3.out.setCell (by show _≤w.heap.size+1;omega) _).setCell (by show _≤w.heap.size+1;omega) _).setCell (by show _≤w.heap.size+1;omega) _).alloc (by simp;omega) _
 | true =>
    obtain ⟨z1,z2,z3⟩:=kCM hok;rw [z3] at HS3 ⊢;have HE:=hJ z2;rw [z2];have HF:=hJ z1;clear z1 z2 z3 hok;obtain ⟨er,ed⟩:∃ q,q=kFJ b x.shape:=⟨_,rfl⟩
    have HSh:Hid ((kAS b x).elem=kF5 b x.elem∧(kAS b x).shape=er):=hJ ⟨rfl,ed.symm⟩;rw [← ed] at HS3 ⊢;clear ed;obtain ⟨w4,hw4⟩:∃ q,q=(w3.alloc (.cells #[.string er.row,.slice a5 er.dims.length c5] 24)).alloc (.cells #[.string x.elem,.string er.row,.slice a5 er.dims.length c5] 26):=⟨_,rfl⟩
    have hA3:Below w3.heap.size w3 w4:=by rw [hw4];exact ((Below.refl _ _).alloc (Nat.le_refl _) _).alloc (by simp) _
    have HW6:=hJ (HW3.out.trans (hA3.mono HW3.out.size));have HCF:=hJ (kC9 b a nb cb w4 (HBS.out.below HW6.out) 3 x.elem);have y9:=HA3.out.cell 0 _ rfl;have hl9:=HA3.out.lt;have HA6:Hid (Bx w4 _ _ _):=hJ (hw4 ▸ (HA3.out.alloc _).alloc _);have HR6:Hid (Bx w4 _ _ _):=hJ (hw4 ▸ (HR3.out.alloc _).alloc _)
    have HT6:Hid (Bx w4 (w3.heap.size+1) 26 [.string x.elem,.string er.row,.slice a5 er.dims.length c5]):=hJ (by
     have:=Bx.fresh (w3.alloc (.cells #[.string er.row,.slice a5 er.dims.length c5] 24)) 26 [.string x.elem,.string er.row,.slice a5 er.dims.length c5];rw [hw4];simpa using this)
    have HS6:=hJ (HS3.out.below hA3);have hl6:=HR6.out.lt;have ha6:=HA6.out.lt;have ht6:=HT6.out.lt;have u0:=HR6.out.fz 0;have u1:=HR6.out.fz 1;have u2:=HR6.out.fz 2;have v0:=HR6.out.cell 0 _ rfl;have v1:=HR6.out.cell 1 _ rfl;have v2:=HR6.out.cell 2 _ rfl;have t0:=HT6.out.cell 0 _ rfl;have t1:=HT6.out.cell 1 _ rfl;have t2:=HT6.out.cell 2 _ rfl;have hfold:(w3.alloc (.cells #[.string er.row,.slice a5 er.dims.length c5] 24)).alloc (.cells #[.string x.elem,.string er.row,.slice a5 er.dims.length c5] 26)=w4:=hw4.symm;clear hA3 HA3 HR3 HS3 hw4;have y0:=HA6.out.cell 0 _ rfl;by_cases hq:0≤kAU b 3 x.elem
    · obtain ⟨kk,hkk,hkl⟩:=find_nat hq
      have hkn:kk<nb:=by rw [← HBS.out.len];exact hkl
      have HEl:Hid (kF5 b x.elem=(b.getD kk default).elem):=hJ (by unfold kF5;rw [if_pos hq,hkk];rfl);rw [hkk] at HCF;clear hq hkk;obtain ⟨bb,boff,rfl,hbb,hSb⟩:=HBS.out.form kk hkn;obtain ⟨td,dd,hr,⟨⟨at1,ct1,rfl,_⟩,⟨ad1,cd1,rfl,hrd⟩⟩,e0,e1,e2,e3,e4,e5,e6⟩:=(HBS.out.below HW6.out).bnd kk hkn;generalize (b.getD kk default).elem=ee at *;clear hr e0 e1 e2 e3 e4 e5 hrd;have hkn2:(kk:Int)<(nb:Int):=by omega
      have r0:=HT6.out.fz 0;have HR7:=hJ (HR6.out.other (a:=⟨w3.heap.size+1,0,none⟩) (u:=.string ee) (by show w3.heap.size+1≠_;omega))
      go_wp2_with fail
      refine (HCF.out).mono ?_;rintro e _ ⟨rfl,rfl⟩
      go_wp2_with fail
      have HX60:=hJ (((HR7.out.set 0 (.string ee)).set 1 (.string er.row)).set 2 (.slice a5 er.dims.length c5));have s0:=HX60.out.cell 0 _ rfl;have s1:=HX60.out.cell 1 _ rfl;have s2:=HX60.out.cell 2 _ rfl
      go_wp2_with fail
      refine bodyPost_ret (v:=.tuple #[.agg #[.string ee,.string er.row,.slice a5 er.dims.length c5],.int .i64 0]) (by simp [results,results12,go_sem,s0,s1,s2,hl6]) rfl ?_;refine ⟨⟨[.string ee,.string er.row,.slice a5 er.dims.length c5],by rw [HE.out],?_⟩,?_⟩
      · rw [HF.out]
        refine ⟨.slice a5 er.dims.length c5,by rw [HSh.out.1,HSh.out.2,HEl.out],a5,c5,by rw [HSh.out.2],?_⟩;rw [HSh.out.2];refine Sl.mono (S:=fun k=>(¬kCI b∧T k∧k<w.heap.size)∨(w.heap.size+2≤k∧k<w3.heap.size)) ?_ (fun q hq _=>by exact hq.elim .inl (fun r=>.inr (by omega)))
        repeat (first | exact HS6.out | refine Sl.set ?_ (fun q hq=>by have hz:=HW3.out.size;have hq:q<w.heap.size∨(w.heap.size+2≤q∧q<w3.heap.size):=hq.elim (fun r=>.inl r.2.2) .inr;first | (show w.heap.size+1≠q;omega) | (show w.heap.size≠q;omega) | (show w3.heap.size+1≠q;omega)))
      · repeat (first | exact HW6.out | refine Below.setCell ?_ (by first | (show _≤w.heap.size+1;omega) | exact Nat.le_refl _ | (show _≤w3.heap.size+1;omega)) _)
    · have hq2:kAU b 3 x.elem<0:=by omega
      have HEl:Hid (kF5 b x.elem=x.elem):=hJ (by unfold kF5;rw [if_neg hq]);clear hq;generalize kAU b 3 x.elem=q at *
      go_wp2_with fail
      refine (HCF.out).mono ?_;rintro e _ ⟨rfl,rfl⟩
      go_wp2_with fail
      have HX60:=hJ (((HR6.out.set 0 (.string x.elem)).set 1 (.string er.row)).set 2 (.slice a5 er.dims.length c5));have s0:=HX60.out.cell 0 _ rfl;have s1:=HX60.out.cell 1 _ rfl;have s2:=HX60.out.cell 2 _ rfl
      go_wp2_with fail
      refine bodyPost_ret (v:=.tuple #[.agg #[.string x.elem,.string er.row,.slice a5 er.dims.length c5],.int .i64 0]) (by simp [results,results12,go_sem,s0,s1,s2,hl6]) rfl ?_;refine ⟨⟨[.string x.elem,.string er.row,.slice a5 er.dims.length c5],by rw [HE.out],?_⟩,?_⟩
      · rw [HF.out]
        refine ⟨.slice a5 er.dims.length c5,by rw [HSh.out.1,HSh.out.2,HEl.out],a5,c5,by rw [HSh.out.2],?_⟩;rw [HSh.out.2];refine Sl.mono (S:=fun k=>(¬kCI b∧T k∧k<w.heap.size)∨(w.heap.size+2≤k∧k<w3.heap.size)) ?_ (fun q hq _=>by exact hq.elim .inl (fun r=>.inr (by omega)))
        repeat (first | exact HS6.out | refine Sl.set ?_ (fun q hq=>by have hz:=HW3.out.size;have hq:q<w.heap.size∨(w.heap.size+2≤q∧q<w3.heap.size):=hq.elim (fun r=>.inl r.2.2) .inr;first | (show w.heap.size+1≠q;omega) | (show w.heap.size≠q;omega) | (show w3.heap.size+1≠q;omega)))
      · repeat (first | exact HW6.out | refine Below.setCell ?_ (by first | (show _≤w.heap.size+1;omega) | exact Nat.le_refl _ | (show _≤w3.heap.size+1;omega)) _)
theorem addAll_kinds {p:Int→Prop} (h1:p 1):∀ (ns:List Str) (l:List Bnd),(∀ y ∈ l,p y.kind)→∀ y ∈ addAll l ns,p y.kind
 | [],l,h=>h
 | n :: ns,l,h=>addAll_kinds h1 ns (addV l 1 n) (fun y hy=>by
   unfold addV at hy
   split at hy
   · exact h y hy
   · rcases List.mem_append.1 hy with q | q
     · exact h y q
     · rw [List.mem_singleton.1 q];exact h1)
theorem varsV_kinds (s:Shp):∀ y ∈ kBV s,y.kind≠3:=by
 unfold kBV
 split
 · unfold varsS
   refine addAll_kinds (p:=fun k=>k≠3) (by decide) _ _ ?_;unfold rowV
   split
   · intro y hy;simp at hy
   · intro y hy
     unfold addV at hy
     split at hy
     · simp at hy
     · simp at hy;rw [hy];show (2:Int)≠3;decide
 · intro y hy;simp at hy
theorem find_kind {l:List Bnd} {k:Int} (h:∀ y ∈ l,y.kind≠k) (v:Str):kAU l k v<0:=by
 rw [kEH,List.any_eq_false];intro y hy;unfold isB;rw [beq_eq_false_iff_ne.2 (h y hy)];simp
theorem kG7 {S:Blk} {x:Typ} {cs:List Value} {w:World} (h:RTyp.rd S w cs x) (hv:kAE x=true) (E:Env w) :
 Calls Tryz.prog 18 #[.agg cs.toArray] w fun e w'=>(∃ v,e= .returned v∧Own RBnd 47 (fun _=>False) w' w.heap.size v (kA6 x))∧Below w.heap.size w w':=by
 have HV:Hid (∀ W,Below w.heap.size w W→Calls Tryz.prog 26 #[.agg cs.toArray] W fun e w'=>e= .returned (.bool true)∧Below W.heap.size W w') :=
  hJ (fun W hW=>hv ▸ kCG (RTyp.below h hW) (typ_sz hv) (E.below hW))
 obtain ⟨t,rfl,a,c,rfl,hs⟩:=h;have hez:x.elem.size≤281474976710656:=Nat.le_trans (typ_sz hv).1 (by decide)
 have HC:Hid (∀ W,Below w.heap.size w W→Calls Tryz.prog 53 #[.agg #[.string x.shape.row,.slice a x.shape.dims.length c]] W fun e w'=>(∃ v,e= .returned v∧Own RBnd 47 (fun _=>False) w' W.heap.size v (kBV x.shape))∧Below W.heap.size W w') :=
  hJ (fun W hW=>shape_Vars (S:=S) (cs:=[.string x.shape.row,.slice a x.shape.dims.length c]) ⟨_,rfl,a,c,rfl,hs.below hW⟩ (kHI hv) (E.below hW))
 have HLen:=hJ (kEA x.shape);have HE:Hid (∀ W,Calls Tryz.prog 54 #[.string x.elem] W fun e w'=>e= .returned (.bool (kAN x.elem))∧Below W.heap.size W w'):=hJ (fun W=>kBK x.elem hez W);have HF0:Hid (kA6 x=if kAN x.elem then addV (kBV x.shape) 3 x.elem else kBV x.shape):=hJ (by unfold kA6;rw [hv];rfl);have HN:=hJ (addV_new (find_kind (varsV_kinds x.shape) x.elem));clear hs hez hv E;obtain ⟨B0,ya,hW0⟩:=box1 w 26 [.string x.elem,.string x.shape.row,.slice a x.shape.dims.length c];have xa0:=box0 ya 0 _ rfl;have xa1:=box0 ya 1 _ rfl;have xa2:=box0 ya 2 _ rfl;have bka:Bx _ _ _ _:=ya;clear ya;have HBk:=hJ bka;clear bka;generalize kAN x.elem=q at *;generalize kBV x.shape=l at *;cases q with
 | true =>
   have HF:Hid (kA6 x=l++[bare 3 x.elem]):=hJ (by rw [HF0.out,← HN.out];rfl);clear HF0;go_enter func18,ntmps18
   go_wp2_with fail
   refine (HV.out _ B0.out).mono ?_;rintro e w1 ⟨rfl,hb⟩;have HB1:=hJ (HBk.out.below hb (by simp));have y0:=HB1.out.cell 0 _ rfl;have y1:=HB1.out.cell 1 _ rfl;have y2:=HB1.out.cell 2 _ rfl;have HW:=hJ (B0.out.trans (hb.mono B0.out.size));clear xa0 xa1 xa2
   go_wp2_with fail
   refine (HC.out _ HW.out).mono ?_;rintro e w2 ⟨⟨v,rfl,hown⟩,hb2⟩;have HO:=hJ hown;obtain ⟨a2,m2,c2,rfl⟩:=hown.shape;have hl1:=HB1.out.lt;have HB2:=hJ (HB1.out.below hb2 hl1);have z0:=HB2.out.cell 0 _ rfl;clear hown y0 y1 y2
   go_wp2_with fail
   refine (HE.out _).mono ?_;rintro e w3 ⟨rfl,hb3⟩;have HB3:=hJ (HB2.out.below hb3 HB2.out.lt);have u0:=HB3.out.cell 0 _ rfl;have hz2:=hb2.size;have hz3:=hb3.size
   go_wp2_with (at_builtin;refine kAZ kDU rfl _ _ rfl w1.heap.size _ _ rfl ((HO.out.below hb3).alloc _) _ (bare 3 x.elem) [.int .i64 3,.string x.elem,.int .i64 0,.slice none 0 0,.string ⟨#[]⟩,.slice none 0 0,.string ⟨#[]⟩] rfl ⟨_,_,rfl,⟨none,0,rfl,Sl.empty _ _ _⟩,⟨none,0,rfl,Sl.empty _ _ _⟩⟩ (kA3 47 (by (simp only [kAI,kAH,Array.getElem?_push,Array.size_push];simp))) (by have:=HLen.out;omega) (by have:=HLen.out;unfold maxLen;omega) (by simp;omega) ?_;intro v9 w9 hown9 hb9 hk9)
   go_ret;exact ⟨⟨_,rfl,by rw [HF.out];exact hown9.lower HW.out.size⟩,HW.out.trans (((hb2.trans (hb3.mono hz2)).alloc (by omega) _ |>.trans hb9).mono HW.out.size)⟩
 | false =>
   have HF:Hid (kA6 x=l):=hJ (by rw [HF0.out];rfl);clear HF0;go_enter func18,ntmps18
   go_wp2_with fail
   refine (HV.out _ B0.out).mono ?_;rintro e w1 ⟨rfl,hb⟩;have HB1:=hJ (HBk.out.below hb (by simp));have y0:=HB1.out.cell 0 _ rfl;have y1:=HB1.out.cell 1 _ rfl;have y2:=HB1.out.cell 2 _ rfl;have HW:=hJ (B0.out.trans (hb.mono B0.out.size));clear xa0 xa1 xa2
   go_wp2_with fail
   refine (HC.out _ HW.out).mono ?_;rintro e w2 ⟨⟨v,rfl,hown⟩,hb2⟩;have HO:=hJ hown;obtain ⟨a2,m2,c2,rfl⟩:=hown.shape;have hl1:=HB1.out.lt;have HB2:=hJ (HB1.out.below hb2 hl1);have z0:=HB2.out.cell 0 _ rfl;clear hown y0 y1 y2
   go_wp2_with fail
   refine (HE.out _).mono ?_;rintro e w3 ⟨rfl,hb3⟩
   go_wp2_with fail
   go_ret;exact ⟨⟨_,rfl,by rw [HF.out];exact (HO.out.below hb3).lower HW.out.size⟩,HW.out.trans ((hb2.trans (hb3.mono hb2.size)).mono HW.out.size)⟩
theorem types_Vars {S:Blk} {s:Sch} {cs:List Value} {w:World} (h:RSch.rd S w cs s) (hv:kAM s=true) (E:Env w) :
 Calls Tryz.prog 32 #[.agg cs.toArray] w fun e w'=>(∃ v,e= .returned v∧Own RBnd 47 (fun _=>False) w' w.heap.size v (kBW s))∧Below w.heap.size w w':=by
 have HV:Hid (∀ W,Below w.heap.size w W→Calls Tryz.prog 30 #[.agg cs.toArray] W fun e w'=>e= .returned (.bool true)∧Below W.heap.size W w') :=
  hJ (fun W hW=>hv ▸ kBA (RSch.below h hW) (sch_sz hv) (E.below hW))
 have HE:=hJ (fun (W:World) (hW:Below w.heap.size w W)=>E.below hW);have hsp:=kAV hv;have HAV:=hJ (allT_valid hv);have HWV:=hJ hsp.2.2.2.2;have hpl:=hsp.1;have hwl:=hsp.2.1;have HF:Hid (kBW s=addAll (kB6 (allT s)) (s.wh.flatMap kAL)):=hJ (by unfold kBW;rw [hv];rfl);obtain ⟨p,t,q,rfl,⟨ap,cp,rfl,hp⟩,⟨at_,ct,rfl,ht⟩,⟨aq,cq,rfl,hq⟩⟩:=h;have HP:=hJ hp;have HT:=hJ ht;have HQ:=hJ hq;have hAl:(allT s).length=s.params.length+1:=by unfold allT;rw [List.length_append];rfl
 have hAe:allT s=s.params++[s.result]:=rfl;have HAe:=hJ hAe;clear hp ht hq hsp hv hAe;generalize hn:s.params.length=n at *;generalize hm:s.wh.length=m at *;have HN:=hJ hn;have HM:=hJ hm;have HAl:=hJ hAl;clear hn hm hAl;obtain ⟨B0,ya,hW0⟩:=box1 w 29 [.slice ap n cp,.string s.result.elem,.string s.result.shape.row,.slice at_ s.result.shape.dims.length ct,.slice aq m cq];have xa0:=box0 ya 0 _ rfl;have xa1:=box0 ya 1 _ rfl;have xa2:=box0 ya 2 _ rfl;have xa3:=box0 ya 3 _ rfl;have xa4:=box0 ya 4 _ rfl;have bka:Bx _ _ _ _:=ya;clear ya;have HBk:=hJ bka;clear bka;go_enter func32,ntmps32
 go_wp2_with fail
 refine (HV.out _ B0.out).mono ?_;rintro e w1 ⟨rfl,hb⟩;have HB1:=hJ (HBk.out.below hb (by simp));have y0:=HB1.out.cell 0 _ rfl;have y1:=HB1.out.cell 1 _ rfl;have y2:=HB1.out.cell 2 _ rfl;have y3:=HB1.out.cell 3 _ rfl;have hl1:=HB1.out.lt;have HW:=hJ (B0.out.trans (hb.mono B0.out.size));clear xa0 xa1 xa2 xa3 xa4 hb;have HA:Hid (Below w1.heap.size w1 ((w1.alloc (.cells #[.string s.result.elem,.string s.result.shape.row,.slice at_ s.result.shape.dims.length ct] 26)).alloc (.cells #[.slice ap n cp,.slice (some ⟨w1.heap.size,0,none⟩) 1 1] 27))):=hJ (((Below.refl _ _).alloc (Nat.le_refl _) _).alloc (by simp) _)
 have HCat:=hJ (concat_Typ (S1:=fun k=>S k∧k<w.heap.size) (S2:=fun k=>(S k∧k<w.heap.size)∨k=w1.heap.size) s.params [s.result] ap n cp (some ⟨w1.heap.size,0,none⟩) 1 1 (w1.heap.size+1) ((w1.alloc (.cells #[.string s.result.elem,.string s.result.shape.row,.slice at_ s.result.shape.dims.length ct] 26)).alloc (.cells #[.slice ap n cp,.slice (some ⟨w1.heap.size,0,none⟩) 1 1] 27))
  (by have:=Bx.fresh (w1.alloc (.cells #[.string s.result.elem,.string s.result.shape.row,.slice at_ s.result.shape.dims.length ct] 26)) 27 [.slice ap n cp,.slice (some ⟨w1.heap.size,0,none⟩) 1 1];simpa using this)
  ((HP.out.mono (fun k hk hlt=>⟨hk,hlt⟩)).below (HW.out.trans (HA.out.mono HW.out.size)))
  (Sl.single (cs:=[.string s.result.elem,.string s.result.shape.row,.slice at_ s.result.shape.dims.length ct]) ((Bx.fresh w1 26 [.string s.result.elem,.string s.result.shape.row,.slice at_ s.result.shape.dims.length ct]).alloc _) ⟨_,rfl,at_,ct,rfl,(HT.out.mono (fun k hk hlt=>.inl ⟨hk,hlt⟩)).below (HW.out.trans (HA.out.mono HW.out.size))⟩ (.inr rfl)) (by omega) (by omega))
 go_wp2_with fail
 refine HCat.out.mono ?_;rintro e w2 ⟨⟨v,rfl,hown⟩,hb2⟩;clear HCat;have HB2:=hJ (HA.out.trans (hb2.mono HA.out.size));obtain ⟨al,cl,rfl,hsl⟩:=hown.sl;rw [← HAe.out,HAl.out] at hsl;have HLs:=hJ hsl;have hla:(s.params++[s.result]).length=n+1:=by rw [← HAe.out];exact HAl.out
 have hz2:=HB2.out.size;have HG2:=hJ (HB1.out.below HB2.out hl1);clear hown hsl hb2 y0 y1 y2 y3;rw [hla];have HLa:=hJ hla;clear hla;have HW2:=hJ (HW.out.trans (HB2.out.mono HW.out.size))
 go_wp2_with fail
 go_loopw [3,21] (fun v i wr=>∃ (k:Nat) (v0:Value),k≤n+1∧i= .int .i64 k∧v0=v∧Hid (Own RBnd 47 (fun _=>False) wr w2.heap.size v (kB6 ((allT s).take k)))∧Below w2.heap.size w2 wr) (fun _ i _=>n+1 - (intOf i).toNat)
 case atStart=>exact ⟨0,_,Nat.zero_le _,rfl,rfl,hJ (Own.nil _ _ _ _ _),Below.refl _ _⟩
 case round =>
  obtain ⟨k,v0,hk,rfl,rfl,HO,hB⟩:=hrel;have hsz:=hB.size;obtain ⟨a0,m0,c0,rfl⟩:=HO.out.shape;by_cases hlt:k<n+1
  · obtain ⟨b,off,rfl,hbW,_⟩:=HLs.out.form k hlt
    have hkl:k<(allT s).length:=by rw [HAl.out];exact hlt
    obtain ⟨t,hr,⟨ax,cx,rfl,hts⟩,e0,e1,e2⟩:=(HLs.out.below hB).typ k hlt;have HXv:=hJ (HAV.out _ (kAJ hkl));have HNext:=hJ (varsAll_next hkl)
    have HLen:Hid ((kB6 ((allT s).take k)).length≤2000):=hJ (by
     have q1:=kHF ((allT s).take k);rw [List.length_take] at q1;omega)
    clear hkl;generalize (allT s).getD k default=x at *;have HCx:=hJ (fun (W:World) (hW:Below wr.heap.size wr W)=>kG7 (RTyp.below hr hW) HXv.out (HE.out W (HW2.out.trans ((hB.trans (hW.mono hB.size)).mono HW2.out.size))));have HVl:=hJ (varsTy_len x);have HVb:=hJ (varsTy_inv HXv.out).bare;clear hr hts;have HAx:Hid (Below wr.heap.size wr (wr.alloc (.cells #[.string x.elem,.string x.shape.row,.slice ax x.shape.dims.length cx] 26))):=hJ ((Below.refl _ _).alloc (Nat.le_refl _) _)
    go_wp2_with fail
    refine (HCx.out _ HAx.out).mono ?_;rintro e w3 ⟨⟨v3,rfl,hown3⟩,hb3⟩;obtain ⟨a3,c3,rfl,hs3,hA3⟩:=hown3.self;have HB3:=hJ (HAx.out.trans (hb3.mono HAx.out.size));have HW3:Hid (Calls _ _ _ _ _):=hJ (types_with (HO.out.below HB3.out) (by have:=HB3.out.size;omega) _ a3 _ c3 hs3 (fun q hq=>⟨(hA3 q hq).2,fun e=>by have h1:=(HO.out.block e).2;have h2:=(hA3 q hq).1;simp at h2;omega⟩) HVb.out (by have:=HLen.out;have:=HVl.out;omega));have hz3:=HB3.out.size;clear hown3 hs3 hA3 hb3;generalize kA6 x=vs at *;generalize kB6 ((allT s).take k)=l0 at *
    go_wp2_with fail
    refine HW3.out.mono ?_;rintro e w4 ⟨⟨v4,rfl,hown4,_⟩,hb4⟩
    go_wp2_with fail
    go_roundw
    case rel=>exact ⟨k+1,_,by omega,by go_num,rfl,hJ (by rw [HNext.out];exact hown4),(hB.trans (HB3.out.mono hsz)).trans hb4⟩
    case measure=>simp [intOf];omega
  · have HAll:Hid (kB6 ((allT s).take k)=kB6 (allT s)):=hJ (by rw [List.take_of_length_le (by rw [HAl.out];omega)])
    have HO0:=hJ (HAll.out ▸ HO.out);have HG3:=hJ (HG2.out.below hB (by have:=HG2.out.lt;omega));have g4:=HG3.out.cell 4 _ rfl;have HQ2:=hJ (HQ.out.below HW2.out)
    have HL0:Hid ((kB6 (allT s)).length≤2000):=hJ (by
     have q1:=kHF (allT s);rw [HAl.out] at q1;omega)
    clear HO HAll
    go_wp2_with fail
    go_loopw [3,33] (fun v i wr=>∃ (j:Nat) (v0:Value),j≤m∧i= .int .i64 j∧v0=v∧Hid (Own RBnd 47 (fun _=>False) wr w2.heap.size v (addAll (kB6 (allT s)) ((s.wh.take j).flatMap kAL)))∧Below w2.heap.size w2 wr) (fun _ i _=>m - (intOf i).toNat)
    case atStart=>exact ⟨0,_,Nat.zero_le _,rfl,rfl,HO0,hB⟩
    case round =>
     obtain ⟨j,v0,hj,rfl,rfl,HO,hB2⟩:=hrel;have hsz2:=hB2.size;obtain ⟨a0,m0,c0,rfl⟩:=HO.out.shape;by_cases hlj:j<m
     · obtain ⟨b2,off2,rfl,hbW2,_⟩:=HQ2.out.form j hlj
       have hjl:j<s.wh.length:=by rw [HM.out];exact hlj
       obtain ⟨t,hr,⟨ax,cx,rfl,hts⟩,e0,e1⟩:=(HQ2.out.below hB2).lin j hlj;have hxv:=HWV.out _ (kAJ hjl);have HX:=hJ (kBX hxv);have HNext:Hid ((s.wh.take (j+1)).flatMap kAL=(s.wh.take j).flatMap kAL++kAL (s.wh.getD j default)):=hJ (by rw [kAY hjl,List.flatMap_append];simp)
       have HLen:Hid ((addAll (kB6 (allT s)) ((s.wh.take j).flatMap kAL)).length≤3000):=hJ (by
        have q1:=kBU ((s.wh.take j).flatMap kAL) (kB6 (allT s));have q2:=HL0.out;have q3:=kFS (s.wh.take j) (fun x hx=>HWV.out x (List.mem_of_mem_take hx));rw [List.length_take] at q3;omega)
       clear hjl hxv;generalize s.wh.getD j default=x at *;generalize hl0:addAll (kB6 (allT s)) ((s.wh.take j).flatMap kAL)=l0 at *;have HL00:=hJ hl0;clear hl0;have HC:=hJ (fun (W:World) (hW:Below wr.heap.size wr W)=>kFR x ax _ cx W (hts.below hW) (by have:=HX.out;omega));clear hr hts;have hvl:(kAL x).length=x.terms.length:=kH0 x;have HVL:=hJ hvl;clear hvl;have HAx:Hid (Below wr.heap.size wr (wr.alloc (.cells #[.int .i64 x.const,.slice ax x.terms.length cx] 45))):=hJ ((Below.refl _ _).alloc (Nat.le_refl _) _)
       go_wp2_with fail
       refine (HC.out _ HAx.out).mono ?_;rintro e w3 ⟨⟨v3,rfl,hown3⟩,hb3⟩;obtain ⟨a3,c3,rfl,hs3,hA3⟩:=hown3.self;have HB3:=hJ (HAx.out.trans (hb3.mono HAx.out.size));have hz3:=HB3.out.size;have HT3:Hid (Apart (At a3) w3 (.slice a0 m0 c0)):=hJ (fun q hq=>⟨(hA3 q hq).2,fun e=>by have h1:=(HO.out.block e).2;have h2:=(hA3 q hq).1;simp at h2;omega⟩);have HS3:=hJ hs3;have HO3:=hJ (HO.out.below HB3.out);have HB23:=hJ (hB2.trans (HB3.out.mono hsz2));clear hown3 hs3 hA3 hb3 HC HO e0 e1;rw [HVL.out] at HS3 ⊢;generalize hxl:x.terms.length=n3 at *;have HXL:=hJ hxl;clear hxl;have hn3:n3≤12:=by have:=HX.out;omega
       go_wp2_with fail
       go_loopw [3,40] (fun v i wr=>∃ (i3:Nat) (v0:Value),i3≤n3∧i= .int .i64 i3∧v0=v∧Hid (Own RBnd 47 (fun _=>False) wr w2.heap.size v (addAll l0 ((kAL x).take i3)))∧Hid (Sl RStr (At a3) wr a3 n3 c3 (kAL x))∧Hid (Apart (At a3) wr v)∧Below w2.heap.size w2 wr) (fun _ i _=>n3 - (intOf i).toNat)
       case atStart=>exact ⟨0,_,Nat.zero_le _,rfl,rfl,HO3,HS3,HT3,HB23.out⟩
       case round =>
        obtain ⟨i3,v0,hi3,rfl,rfl,HO,HS,HT,hB4⟩:=hrel;have hsz4:=hB4.size;obtain ⟨a0,m0,c0,rfl⟩:=HO.out.shape;by_cases hl3:i3<n3
        · obtain ⟨b4,off4,rfl,hbW4,_⟩:=HS.out.form i3 hl3
          have f0:=HS.out.str i3 hl3;have hk3:i3<x.terms.length:=by rw [HXL.out];exact hl3
          have HStep:=hJ (kHY (l0:=l0) hk3)
          have hLen2:(addAll l0 ((kAL x).take i3)).length≤4000:=by
           have q1:=kBU ((kAL x).take i3) l0;have q2:=HLen.out;rw [List.length_take] at q1;omega
          clear hk3;generalize (kAL x).getD i3 default=y at *;generalize addAll l0 ((kAL x).take i3)=l1 at *;obtain ⟨w7,hfold7⟩:∃ q,wr.alloc (.cells #[.int .i64 1,.string y,.int .i64 0,.slice none 0 0,.string ⟨#[]⟩,.slice none 0 0,.string ⟨#[]⟩] 47)=q:=⟨_,rfl⟩
          have HB7:Hid (Below wr.heap.size wr w7):=hJ (by rw [← hfold7];exact (Below.refl _ _).alloc (Nat.le_refl _) _);have HP7:Hid (Bx w7 wr.heap.size 47 [.int .i64 1,.string y,.int .i64 0,.slice none 0 0,.string ⟨#[]⟩,.slice none 0 0,.string ⟨#[]⟩]):=hJ (by rw [← hfold7];exact Bx.fresh _ _ _);have HW7:Hid (Calls _ _ _ _ _):=hJ (types_with (T:=fun q=>q=wr.heap.size) (HO.out.below HB7.out) (by have:=HB7.out.size;omega) [bare 1 y] (some ⟨wr.heap.size,0,none⟩) 1 1 (Sl.single (R:=RBnd) HP7.out ⟨_,_,rfl,⟨none,0,rfl,Sl.empty _ _ _⟩,⟨none,0,rfl,Sl.empty _ _ _⟩⟩ rfl) (fun q hq=>⟨by rw [hq];exact HP7.out.lt,fun e=>by have h1:=(HO.out.block e).2;omega⟩) (fun x hx=>by rw [List.mem_singleton.1 hx];rfl) (by omega));have hz7:=HB7.out.size
          go_wp2_with fail
          refine HW7.out.mono ?_;rintro e w8 ⟨⟨v8,rfl,hown8,hk8⟩,hb8⟩;have HK8:=hJ ((Kl.below HB7.out).trans hk8 hz7);have hz8:wr.heap.size≤w8.heap.size:=by have:=hb8.size;omega
          go_wp2_with fail
          go_roundw
          case rel=>exact ⟨i3+1,_,by omega,by go_num,rfl,hJ (by rw [HStep.out];exact hown8),hJ (HS.out.kl HT.out HK8.out),hJ (HT.out.kl HK8.out hz8),(hB4.trans (HB7.out.mono hsz4)).trans hb8⟩
          case measure=>simp [intOf];omega
        · have HEnd:Hid (addAll l0 ((kAL x).take i3)=addAll l0 (kAL x)):=hJ (by
           rw [List.take_of_length_le];rw [HVL.out];omega)
          go_wp2_with fail
          go_roundw
          case rel=>exact ⟨j+1,_,by omega,by go_num,rfl,hJ (by rw [HNext.out,kCW,HL00.out,← HEnd.out];exact HO.out),hB4⟩
          case measure=>simp [intOf];omega
     · have HAll:Hid (s.wh.take j=s.wh):=hJ (List.take_of_length_le (by rw [HM.out];omega))
       go_wp2_with fail
       go_ret;exact ⟨⟨_,rfl,by rw [HF.out];have:=HO.out.lower HW2.out.size;rwa [HAll.out] at this⟩,HW2.out.trans (hB2.mono HW2.out.size)⟩
def kFN (l:List Bnd) (k:Nat):List Bnd:=(List.range k).map (renAt l)++l.drop k
theorem renUp_zero (l:List Bnd):kFN l 0=l:=rfl
theorem renUp_all (l:List Bnd):kFN l l.length=ren l:=by
 unfold kFN ren;rw [List.drop_length,List.append_nil]
theorem kDI {l:List Bnd} {k:Nat} (h:k≤l.length):(kFN l k).length=l.length:=by
 unfold kFN;rw [List.length_append,List.length_map,List.length_range,List.length_drop];omega
theorem renUp_at {l:List Bnd} {k:Nat} (h:k<l.length):(kFN l k)[k]? =some (l.getD k default):=by
 unfold kFN;rw [List.getElem?_append_right (by rw [List.length_map,List.length_range];exact Nat.le_refl _),List.length_map,List.length_range,Nat.sub_self,List.getElem?_drop,Nat.add_zero];exact kEX h
theorem renUp_next {l:List Bnd} {k:Nat} (h:k<l.length):kFN l (k+1)=(kFN l k).set k (renAt l k):=by
 unfold kFN;rw [List.range_succ,List.map_append,List.append_assoc,List.set_append_right _ _ (by rw [List.length_map,List.length_range];exact Nat.le_refl _),List.length_map,List.length_range,Nat.sub_self]
 congr 1
 rw [List.drop_eq_getElem_cons h,List.set_cons_zero];rfl
theorem cnt_next {l:List Bnd} {k:Nat} (h:k<l.length) (q:Int):cntK q (l.take (k+1))=cntK q (l.take k)+if (l.getD k default).kind=q then 1 else 0:=by
 unfold cntK;rw [kAY h,List.countP_append]
 congr 1
 generalize l.getD k default=x at *;by_cases e:x.kind=q
 · rw [if_pos e];simp [e]
 · rw [if_neg e];simp [e]
def cntV (l:List Bnd) (k:Nat):List Value:=[.int .i64 0,.int .i64 (cntK 1 (l.take k)),.int .i64 (cntK 2 (l.take k)),.int .i64 (cntK 3 (l.take k))]
theorem cnt_bd {l:List Bnd} (hl:l.length≤3000) (q:Int) (k:Nat):cntK q (l.take k)≤3000:=by
 have:=cnt_le q (l.take k);rw [List.length_take] at this;omega
structure RenAt1 (l:List Bnd) (k:Nat) (x:Bnd):Prop where
 at1:x.kind=1→renAt l k=⟨1,x.v,varL (nm 110 (cntK 1 (l.take k)+1)),⟨⟨#[]⟩,[]⟩,⟨#[]⟩⟩∧cntV l (k+1)=(cntV l k).set 1 (.int .i64 ((cntK 1 (l.take k):Int)+1))
 at2:x.kind=2→renAt l k=⟨2,x.v,⟨0,[]⟩,⟨nm 114 (cntK 2 (l.take k)+1),[]⟩,⟨#[]⟩⟩∧cntV l (k+1)=(cntV l k).set 2 (.int .i64 ((cntK 2 (l.take k):Int)+1))
 at3:x.kind=3→renAt l k=⟨3,x.v,⟨0,[]⟩,⟨⟨#[]⟩,[]⟩,nm 65 (cntK 3 (l.take k)+1)⟩∧cntV l (k+1)=(cntV l k).set 3 (.int .i64 ((cntK 3 (l.take k):Int)+1))
theorem renAt1 {l:List Bnd} {k:Nat} (h:k<l.length) (hb:(l.getD k default)=bare (l.getD k default).kind (l.getD k default).v):RenAt1 l k (l.getD k default):=by
 have hc:=fun q=>cnt_next h q
 have hr:renAt l k=renB (cntK (l.getD k default).kind (l.take (k+1))) (l.getD k default):=rfl;generalize l.getD k default=x at *;refine ⟨fun e=>?_,fun e=>?_,fun e=>?_⟩
 · rw [e] at hr hb
   have c1:=hc 1;have c2:=hc 2;have c3:=hc 3;rw [e,if_pos rfl] at c1;rw [e,if_neg (by decide)] at c2 c3;refine ⟨?_,?_⟩
   · rw [hr,c1,hb];rfl
   · unfold cntV;rw [c1,c2,c3];rfl
 · rw [e] at hr hb
   have c1:=hc 1;have c2:=hc 2;have c3:=hc 3;rw [e,if_pos rfl] at c2;rw [e,if_neg (by decide)] at c1 c3;refine ⟨?_,?_⟩
   · rw [hr,c2,hb];rfl
   · unfold cntV;rw [c1,c2,c3];rfl
 · rw [e] at hr hb
   have c1:=hc 1;have c2:=hc 2;have c3:=hc 3;rw [e,if_pos rfl] at c3;rw [e,if_neg (by decide)] at c1 c2;refine ⟨?_,?_⟩
   · rw [hr,c3,hb];rfl
   · unfold cntV;rw [c1,c2,c3];rfl
def decS (n:Nat):Str:=⟨(Lib.decDigits n).toArray⟩
theorem Own.cut {α :Type} {R:Rep α} {E:TypeId} {S:Blk} {w:World} {base:Nat} {v:Value} {l:List α} (h:Own R E S w base v l):Own R E (fun q=>S q∧q<w.heap.size) w base v l:=h.mono fun k hk hlt=>⟨hk,hlt⟩
theorem Sl.zero {α :Type} {R:Rep α} {S:Blk} {w:World} {a:Option Addr} {c:Nat} (hm:c≤maxLen) (hn:a=none→c=0):Sl R S w a 0 c []:=⟨rfl,Nat.zero_le _,hm,hn,fun i x h=>by simp at h⟩
theorem cntV_zero (l:List Bnd):cntV l 0=[.int .i64 0,.int .i64 0,.int .i64 0,.int .i64 0]:=by
 unfold cntV cntK;rfl
def kDV (b:List Bnd) (s:Sch):Sch:=if kB7 b s then kEW b s else kDT
def kCE (b:List Bnd) (s:Sch):Int:=if kB7 b s then 0 else 3
theorem sch_no {b:List Bnd} {s:Sch} (h:kB7 b s=false):kDV b s=kDT∧kCE b s=3:=by
 unfold kDV kCE;rw [h];exact ⟨rfl,rfl⟩
theorem sch_badP {b:List Bnd} {s:Sch} {i:Nat} (hi:i<s.params.length) (h:kAX b (s.params.getD i default).shape=false):kDV b s=kDT∧kCE b s=3:=sch_no (by
 have:s.params.all (fun t=>kAX b t.shape)=false:=List.all_eq_false.2 ⟨_,kAJ hi,by rw [h];decide⟩;unfold kB7;rw [this];simp)
theorem sch_badR {b:List Bnd} {s:Sch} (h:kAX b s.result.shape=false):kDV b s=kDT∧kCE b s=3:=sch_no (by
 unfold kB7;rw [h];simp)
theorem sch_badW {b:List Bnd} {s:Sch} {i:Nat} (hi:i<s.wh.length) (h:kAB (kAD b (s.wh.getD i default))=false):kDV b s=kDT∧kCE b s=3:=sch_no (by
 have:s.wh.all (fun x=>kAB (kAD b x))=false:=List.all_eq_false.2 ⟨_,kAJ hi,by rw [h];decide⟩;unfold kB7;rw [this];simp)
theorem all_getD {α :Type} [Inhabited α] {l:List α} {p: α →Bool} (h:∀ i,i<l.length→p (l.getD i default)=true):l.all p=true:=by
 rw [List.all_eq_true];intro x hx;obtain ⟨i,hi,e⟩:=List.getElem_of_mem hx;have:=h i hi;rw [List.getD_eq_getElem?_getD,List.getElem?_eq_getElem hi] at this;rw [← e];exact this
theorem sch_good {b:List Bnd} {s:Sch} (hv:kAM s=true) (hb:kAO b=true) (h1:∀ i,i<s.params.length→kAX b (s.params.getD i default).shape=true) (h2:kAX b s.result.shape=true) (h3:∀ i,i<s.wh.length→kAB (kAD b (s.wh.getD i default))=true):kDV b s=kEW b s∧kCE b s=0:=by
 have:kB7 b s=true:=by
  unfold kB7;rw [hv,hb,all_getD (p:=fun t:Typ=>kAX b t.shape) h1,h2,all_getD (p:=fun x=>kAB (kAD b x)) h3];rfl
 unfold kDV kCE;rw [this];exact ⟨rfl,rfl⟩
theorem Bx.other3 {w:World} {g g':Nat} {E:TypeId} {cs:List Value} (h:Bx w g E cs) (hne:g'≠g) (a b c:Value):Bx (((w.setCell ⟨g',0,none⟩ a).setCell ⟨g',1,none⟩ b).setCell ⟨g',2,none⟩ c) g E cs:=((h.other hne).other hne).other hne
theorem Bx.other2 {w:World} {g g':Nat} {E:TypeId} {cs:List Value} (h:Bx w g E cs) (hne:g'≠g) (a b:Value):Bx ((w.setCell ⟨g',0,none⟩ a).setCell ⟨g',1,none⟩ b) g E cs:=(h.other hne).other hne
def kEL (B:Nat) (w:World) (ds:List Value) (s:Sch):Prop:=∃ base p t q,B≤base∧ds=[p,.string s.result.elem,.string s.result.shape.row,t,q]∧SlV RTyp (fun k=>B≤k∧k<base) w p s.params∧SlV RLin (fun k=>B≤k∧k<base) w t s.result.shape.dims∧Own RLin 45 (fun k=>base≤k) w base q s.wh
theorem kEL.no (B:Nat) (w:World):kEL B w [.slice none 0 0,.string ⟨#[]⟩,.string ⟨#[]⟩,.slice none 0 0,.slice none 0 0] kDT :=
 ⟨B,_,_,_,Nat.le_refl _,rfl,⟨none,0,rfl,Sl.empty _ _ _⟩,⟨none,0,rfl,Sl.empty _ _ _⟩,Own.nil _ _ _ _ _⟩
theorem kEL.rd {B:Nat} {w:World} {ds:List Value} {s:Sch} (h:kEL B w ds s):RSch.rd (fun k=>B≤k) w ds s:=by
 obtain ⟨base,p,t,q,hb,rfl,h1,h2,h3⟩:=h;obtain ⟨a,c,rfl,h4⟩:=h3.sl;exact ⟨p,t,_,rfl,h1.mono (fun k hk _=>hk.1),h2.mono (fun k hk _=>hk.1),⟨a,c,rfl,h4.mono (fun k hk _=>by have:base≤k:=hk.elim id id;omega)⟩⟩
def kEZ (X:Blk) (B:Nat) (w:World) (ds:List Value) (s:Sch):Prop:=∃ base p t q,B≤base∧ds=[p,.string s.result.elem,.string s.result.shape.row,t,q]∧SlV RTyp (fun k=>(X k∨B≤k)∧k<base) w p s.params∧SlV RLin (fun k=>(X k∨B≤k)∧k<base) w t s.result.shape.dims∧Own RLin 45 (fun k=>base≤k) w base q s.wh
theorem kEZ.no (X:Blk) (B:Nat) (w:World):kEZ X B w [.slice none 0 0,.string ⟨#[]⟩,.string ⟨#[]⟩,.slice none 0 0,.slice none 0 0] kDT :=
 ⟨B,_,_,_,Nat.le_refl _,rfl,⟨none,0,rfl,Sl.empty _ _ _⟩,⟨none,0,rfl,Sl.empty _ _ _⟩,Own.nil _ _ _ _ _⟩
theorem kEZ.plain {X:Blk} {B:Nat} {w:World} {ds:List Value} {s:Sch} (h:kEZ X B w ds s) (hX:∀ q,¬ X q):kEL B w ds s:=by
 obtain ⟨base,p,t,q,hb,e,h1,h2,h3⟩:=h;exact ⟨base,p,t,q,hb,e,h1.mono (fun k hk _=>⟨hk.1.resolve_left (hX k),hk.2⟩),h2.mono (fun k hk _=>⟨hk.1.resolve_left (hX k),hk.2⟩),h3⟩
theorem kEZ.rd {X:Blk} {B:Nat} {w:World} {ds:List Value} {s:Sch} (h:kEZ X B w ds s):RSch.rd All w ds s:=by
 obtain ⟨base,p,t,q,hb,rfl,h1,h2,h3⟩:=h;obtain ⟨a,c,rfl,h4⟩:=h3.sl;exact ⟨p,t,_,rfl,h1.mono (fun k hk _=>trivial),h2.mono (fun k hk _=>trivial),⟨a,c,rfl,h4.mono (fun k hk _=>trivial)⟩⟩
theorem kE1 {S T:Blk} {s:Sch} {cs:List Value} {w:World} (h:RSch.rd S w cs s) (hv:kAM s=true) (b:List Bnd) (a:Option Addr) (nb cb:Nat) (hbs:Sl RBnd T w a nb cb b) (hb:kAO b=true) (E:Env w) :
 Calls Tryz.prog 13 #[.agg cs.toArray,.slice a nb cb] w fun e w'=>(∃ ds,e= .returned (.tuple #[.agg ds.toArray,.int .i64 (kCE b s)])∧kEL w.heap.size w' ds (kDV b s))∧Below w.heap.size w w':=by
 have HCV:Hid (∀ W,Below w.heap.size w W→Calls Tryz.prog 30 #[.agg cs.toArray] W fun e w'=>e= .returned (.bool true)∧Below W.heap.size W w') :=
  hJ (fun W hW=>hv ▸ kBA (RSch.below h hW) (sch_sz hv) (E.below hW))
 have HCB:Hid (∀ W,Below w.heap.size w W→Calls Tryz.prog 43 #[.slice a nb cb] W fun e w'=>e= .returned (.bool true)∧Below W.heap.size W w') :=
  hJ (fun W hW=>kDR b a nb cb W (hbs.below hW) hb (E.below hW))
 have EE:=hJ E;have HCT:=hJ (fun (W:World) (hW:Below w.heap.size w W) (x:Typ) (ds:List Value) (hx:RTyp.rd S W ds x) (hvx:kAE x=true)=>types_Subst hx hvx b a nb cb (hbs.below hW) hb (E.below hW));have HCL:=hJ (fun (W:World) (hW:Below w.heap.size w W) (x:Lin) (ds:List Value) (hx:RLin.rd S W ds x) (hvx:kAB x=true)=>kDP hx hvx b a nb cb (hbs.below hW) (kCL hb) (E.below hW));obtain ⟨X,hX⟩:∃ X:Blk,X=fun _=>False:=⟨_,rfl⟩
 have HX0:Hid (∀ q,¬ X q):=hJ (fun q=>by rw [hX];exact id);have HXw:Hid (∀ q,X q→q<w.heap.size):=hJ (fun q h=>absurd h (HX0.out q));clear hX;obtain ⟨_,_,_,rfl,⟨ap,cp,rfl,hps⟩,⟨ar,cr,rfl,hrs⟩,⟨aq,cq,rfl,hqs⟩⟩:=h;have HPs:=hJ hps;have HRs:=hJ hrs;have HQs:=hJ hqs;have HV:=hJ (kAV hv);have HGood:=hJ (fun q1 q2 q3=>sch_good (b:=b) (s:=s) hv hb q1 q2 q3);have hpm:=hps.small;have hqm:=hqs.small;have hp12:=(kAV hv).1;have hq60:=(kAV hv).2.1;clear hps hrs hqs hbs hv hb;generalize hnn:s.params.length=n at *;generalize hmm:s.wh.length=m at *;have HN:=hJ hnn;have HM:=hJ hmm;clear hnn hmm;obtain ⟨B0,ya,yb,hW0⟩:=box2 w 29 [.slice ap n cp,.string s.result.elem,.string s.result.shape.row,.slice ar s.result.shape.dims.length cr,.slice aq m cq] 29 [.slice none 0 0,.string ⟨#[]⟩,.string ⟨#[]⟩,.slice none 0 0,.slice none 0 0];have xa0:=box0 ya 0 _ rfl;have xa1:=box0 ya 1 _ rfl;have xa2:=box0 ya 2 _ rfl;have xa3:=box0 ya 3 _ rfl;have xa4:=box0 ya 4 _ rfl;have xb0:=box0 yb 0 _ rfl;have xb1:=box0 yb 1 _ rfl;have xb2:=box0 yb 2 _ rfl;have xb3:=box0 yb 3 _ rfl;have xb4:=box0 yb 4 _ rfl;have bka:Bx _ _ _ _:=ya;have bkb:Bx _ _ _ _:=yb;clear ya yb;have HA0:=hJ bka;have HR0:=hJ bkb;clear bka bkb;go_enter func13,ntmps13
 go_wp2_with fail
 refine (HCV.out _ B0.out).mono ?_;rintro e w1 ⟨rfl,hb1⟩;have hW1:=B0.out.trans (hb1.mono B0.out.size)
 go_wp2_with fail
 refine (HCB.out _ hW1).mono ?_;rintro e w2 ⟨rfl,hb2⟩;have HW:=hJ (hW1.trans (hb2.mono hW1.size));have HA2:=hJ ((HA0.out.below hb1 HA0.out.lt).below hb2 (HA0.out.below hb1 HA0.out.lt).lt);have HR2:=hJ ((HR0.out.below hb1 HR0.out.lt).below hb2 (HR0.out.below hb1 HR0.out.lt).lt);have hlR:=HR2.out.lt;have hlA:=HA2.out.lt;clear xa0 xa1 xa2 xa3 xa4 xb0 xb1 xb2 xb3 xb4 hb1 hb2 hW1 HR0 HA0 B0 HCV HCB;obtain ⟨w3,hw3⟩:∃ q,q=w2.alloc (.cells #[.slice none 0 0,.string ⟨#[]⟩,.string ⟨#[]⟩,.slice none 0 0,.slice none 0 0] 29):=⟨_,rfl⟩
 have hfold:=hw3.symm;have HG3:Hid (Bx w3 w2.heap.size 29 [.slice none 0 0,.string ⟨#[]⟩,.string ⟨#[]⟩,.slice none 0 0,.slice none 0 0]):=hJ (by rw [hw3];exact Bx.fresh _ _ _);have HB3:Hid (Below w2.heap.size w2 w3):=hJ (by rw [hw3];exact (Below.refl _ _).alloc (Nat.le_refl _) _);clear hw3;have HA3:=hJ (HA2.out.below HB3.out hlA);have y0:=HA3.out.cell 0 _ rfl;have y1:=HA3.out.cell 1 _ rfl;have y2:=HA3.out.cell 2 _ rfl;have y3:=HA3.out.cell 3 _ rfl;have y4:=HA3.out.cell 4 _ rfl
 go_wp2_with fail
 go_loopw [24] (fun i wr=>∃ (k:Nat) (v0:Value),k≤n∧i= .int .i64 k∧Hid (∀ j,j<k→kAX b (s.params.getD j default).shape=true)∧Hid (Own RTyp 26 (fun q=>w2.heap.size<q) wr (w2.heap.size+1) v0 ((s.params.take k).map (kAS b)))∧Hid (Bx wr w2.heap.size 29 [v0,.string ⟨#[]⟩,.string ⟨#[]⟩,.slice none 0 0,.slice none 0 0])∧Below w2.heap.size w2 wr) (fun i _=>n - (intOf i).toNat)
 case atStart=>exact ⟨0,_,Nat.zero_le _,rfl,hJ (fun i hi=>absurd hi (by omega)),hJ (Own.nil _ _ _ _ _),HG3,HB3.out⟩
 case round =>
  obtain ⟨k,v0,hk,rfl,HT,HO,HG,hB⟩:=hrel;have HBw:=hJ (HW.out.trans (hB.mono HW.out.size));have HRr:=hJ (HR2.out.below hB hlR);have hlG:=HG.out.lt;obtain ⟨a0,m0,c0,rfl⟩:=HO.out.shape;by_cases hlt:k<n
  · obtain ⟨b1,off,rfl,hbW,_⟩:=HPs.out.form k hlt
    obtain ⟨t,hr,⟨at_,ct,rfl,hts⟩,e0,e1,e2⟩:=(HPs.out.below HBw.out).typ k hlt;have HK:Hid (k<s.params.length):=hJ (by rw [HN.out];exact hlt);have HNext:Hid ((s.params.take (k+1)).map (kAS b)=(s.params.take k).map (kAS b)++[kAS b (s.params.getD k default)]):=hJ (by rw [kAY HK.out,List.map_append];rfl);have hkl:((s.params.take k).map (kAS b)).length=k:=by rw [List.length_map,List.length_take,HN.out];omega
    have HBad:=hJ (fun q=>sch_badP (b:=b) HK.out q);have HUp:=hJ (fun q=>upto HT.out (p:=fun j=>kAX b (s.params.getD j default).shape=true) q);have HXv:=hJ (HV.out.2.2.1 _ (kAJ HK.out));generalize s.params.getD k default=x at *;generalize (s.params.take k).map (kAS b)=lk at *;have hA:Below wr.heap.size wr (wr.alloc (.cells #[.string x.elem,.string x.shape.row,.slice at_ x.shape.dims.length ct] 26)):=(Below.refl _ _).alloc (Nat.le_refl _) _;have HCx:=hJ (HCT.out _ (HBw.out.trans (hA.mono HBw.out.size)) x _ (RTyp.below hr hA) HXv.out);clear hr hts;cases hok:kAX b x.shape with
    | false =>
      have HBd:=hJ (HBad.out hok);rw [(kBI hok).1,(kBI hok).2.1] at HCx;clear hok
      go_wp2_with fail
      refine HCx.out.mono ?_;rintro e w5 ⟨⟨_,rfl,hr5⟩,hb5⟩;obtain ⟨_,rfl,a5,c5,rfl,hs5⟩:=hr5;have HP5:=hJ ((Bx.fresh wr 26 [.string x.elem,.string x.shape.row,.slice at_ x.shape.dims.length ct]).below hb5 (Bx.fresh _ _ _).lt);have p0:=HP5.out.cell 0 _ rfl;have p1:=HP5.out.cell 1 _ rfl;have p2:=HP5.out.cell 2 _ rfl;have u10:=HP5.out.fz 0;have u11:=HP5.out.fz 1;have u12:=HP5.out.fz 2;have HB5:=hJ (hA.trans (hb5.mono (by simp)));have HR5:=hJ (HRr.out.below HB5.out HRr.out.lt);obtain ⟨w7,hfold7⟩:∃ q,((w5.setCell ⟨wr.heap.size,0,none⟩ (.string kBN.elem)).setCell ⟨wr.heap.size,1,none⟩ (.string kBN.shape.row)).setCell ⟨wr.heap.size,2,none⟩ (.slice a5 kBN.shape.dims.length c5)=q:=⟨_,rfl⟩
      have HRw:=hJ (HR5.out.other3 (g':=wr.heap.size) (by omega) (.string kBN.elem) (.string kBN.shape.row) (.slice a5 kBN.shape.dims.length c5));rw [hfold7] at HRw;have HWw:Hid (Below w.heap.size w w7):=hJ (by rw [← hfold7];exact (((HBw.out.trans (HB5.out.mono HBw.out.size)).setCell (by show _≤wr.heap.size;omega) _).setCell (by show _≤wr.heap.size;omega) _).setCell (by show _≤wr.heap.size;omega) _);have v0:=HRw.out.cell 0 _ rfl;have v1:=HRw.out.cell 1 _ rfl;have v2:=HRw.out.cell 2 _ rfl;have v3:=HRw.out.cell 3 _ rfl;have v4:=HRw.out.cell 4 _ rfl;have u0:=HRw.out.fz 0;have u1:=HRw.out.fz 1;have u2:=HRw.out.fz 2;have u3:=HRw.out.fz 3;have u4:=HRw.out.fz 4;have hlr:=HRw.out.lt;have HX60:=hJ (((((HRw.out.set 0 (.slice none 0 0)).set 1 (.string ⟨#[]⟩)).set 2 (.string ⟨#[]⟩)).set 3 (.slice none 0 0)).set 4 (.slice none 0 0));have s0:=HX60.out.cell 0 _ rfl;have s1:=HX60.out.cell 1 _ rfl;have s2:=HX60.out.cell 2 _ rfl;have s3:=HX60.out.cell 3 _ rfl;have s4:=HX60.out.cell 4 _ rfl
      go_wp2_with fail
      refine bodyPost_ret (v:=.tuple #[.agg #[.slice none 0 0,.string ⟨#[]⟩,.string ⟨#[]⟩,.slice none 0 0,.slice none 0 0],.int .i64 3]) (by simp [results,results13,go_sem,s0,s1,s2,s3,s4,hlr]) rfl ?_;refine ⟨⟨[.slice none 0 0,.string ⟨#[]⟩,.string ⟨#[]⟩,.slice none 0 0,.slice none 0 0],by rw [HBd.out.2],by rw [HBd.out.1];exact kEL.no ..⟩,?_⟩
      repeat (first | exact HWw.out | refine Below.setCell ?_ (by show _≤w.heap.size+1;omega) _)
    | true =>
      have HUp:=hJ (HUp.out hok);rw [(kCM hok).1,(kCM hok).2.1] at HCx;clear hok HBad
      go_wp2_with fail
      refine HCx.out.mono ?_;rintro e w5 ⟨⟨_,rfl,hr5⟩,hb5⟩;obtain ⟨_,rfl,a5,c5,rfl,hs5⟩:=hr5;generalize kAS b x=y at *;have HP5:=hJ ((Bx.fresh wr 26 [.string x.elem,.string x.shape.row,.slice at_ x.shape.dims.length ct]).below hb5 (Bx.fresh _ _ _).lt);have HB5:=hJ (hA.trans (hb5.mono (by simp)));have p0:=HP5.out.cell 0 _ rfl;have p1:=HP5.out.cell 1 _ rfl;have p2:=HP5.out.cell 2 _ rfl;have u10:=HP5.out.fz 0;have u11:=HP5.out.fz 1;have u12:=HP5.out.fz 2;obtain ⟨w7,hfold7⟩:∃ q,((w5.setCell ⟨wr.heap.size,0,none⟩ (.string y.elem)).setCell ⟨wr.heap.size,1,none⟩ (.string y.shape.row)).setCell ⟨wr.heap.size,2,none⟩ (.slice a5 y.shape.dims.length c5)=q:=⟨_,rfl⟩
      have HB7:Hid (Below wr.heap.size wr w7):=hJ (by rw [← hfold7];exact ((HB5.out.setCell (by exact Nat.le_refl _) _).setCell (by exact Nat.le_refl _) _).setCell (by exact Nat.le_refl _) _);have HP7:=hJ (((HP5.out.set 0 (.string y.elem)).set 1 (.string y.shape.row)).set 2 (.slice a5 y.shape.dims.length c5));rw [hfold7] at HP7;have r0:=HP7.out.cell 0 _ rfl;have r1:=HP7.out.cell 1 _ rfl;have r2:=HP7.out.cell 2 _ rfl;have HG7:=hJ (HG.out.below HB7.out hlG);have g0:=HG7.out.cell 0 _ rfl;have hs7:=HB7.out.size
      have HRY:Hid (RTyp.rd (fun q=>w2.heap.size<q∧(Value.slice a0 m0 c0).ownBlock≠some q) w7 [.string y.elem,.string y.shape.row,.slice a5 y.shape.dims.length c5] y):=hJ ⟨_,rfl,a5,c5,rfl,by
       rw [← hfold7]
       have h1:=hs5.mono (S':=fun q=>wr.heap.size<q) (fun q hq _=>by have hq:wr.heap.size+1≤q:=by simpa using hq
                                                                     omega)
       refine Sl.mono (S:=fun q=>wr.heap.size<q) ?_ (fun q hq _=>⟨by have:wr.heap.size<q:=hq;omega,fun e=>by have h8:=(HO.out.block e).2;have:wr.heap.size<q:=hq;omega⟩);exact ((h1.set (fun q hq=>Nat.ne_of_lt hq)).set (fun q hq=>Nat.ne_of_lt hq)).set (fun q hq=>Nat.ne_of_lt hq)⟩
      clear hs5 hb5 HP5
      go_wp2_with (at_builtin;refine kAZ kGL rfl _ _ rfl (w2.heap.size+1) _ _ rfl ((HO.out.below HB7.out).alloc _) _ y [.string y.elem,.string y.shape.row,.slice a5 y.shape.dims.length c5] rfl (RTyp.below HRY.out ((Below.refl _ _).alloc (Nat.le_refl _) _)) (kA3 26 (by (simp only [kAI,kAH,Array.getElem?_push,Array.size_push];simp))) (by omega) (by unfold maxLen;omega) (by simp;omega) ?_;intro v9 w9 hown9 hb9 hk9;obtain ⟨a9,m9,c9,rfl⟩:=hown9.shape;have HG9:=hJ ((HG7.out.alloc _).kp hk9 (HO.out.ne (Nat.lt_succ_self _)));have g9:=HG9.out.cell 0 _ rfl;have u9:=HG9.out.fz 0)
      go_roundw
      case rel=>exact ⟨k+1,_,by omega,by go_num,HUp,hJ (by rw [HNext.out];exact hown9.set _ (fun q hq=>Nat.ne_of_gt hq) (Nat.lt_succ_self _)),hJ (HG9.out.set 0 _),((hB.trans (HB7.out.mono hB.size)).trans (((Below.refl _ _).alloc (by omega) _).trans (hb9.mono (Nat.le_succ _)))).setCell (Nat.le_refl _) _⟩
      case measure=>simp [intOf];omega
  · obtain rfl:k=n:=by omega
    have HAll:Hid ((s.params.take k).map (kAS b)=s.params.map (kAS b)):=hJ (by rw [List.take_of_length_le (by rw [HN.out];exact Nat.le_refl _)]);rw [HAll.out] at HO;have HAr:=hJ (HA2.out.below hB hlA);have y0:=HAr.out.cell 0 _ rfl;have y1:=HAr.out.cell 1 _ rfl;have y2:=HAr.out.cell 2 _ rfl;have y3:=HAr.out.cell 3 _ rfl;have y4:=HAr.out.cell 4 _ rfl;have HCx:=hJ (HCT.out _ HBw.out s.result _ ⟨_,rfl,ar,cr,rfl,HRs.out.below HBw.out⟩ HV.out.2.2.2.1);have g0:=HG.out.cell 0 _ rfl;cases hok:kAX b s.result.shape with
    | false =>
      have HBd:=hJ (sch_badR (b:=b) hok);rw [(kBI hok).1,(kBI hok).2.1] at HCx;clear hok
      go_wp2_with fail
      refine HCx.out.mono ?_;rintro e w5 ⟨⟨_,rfl,hr5⟩,hb5⟩;obtain ⟨_,rfl,a5,c5,rfl,hs5⟩:=hr5;have HB5:=hJ hb5;have HG5:=hJ (HG.out.below hb5 hlG);have HR5:=hJ (HRr.out.below hb5 HRr.out.lt);have g1:=HG5.out.cell 1 _ rfl;have g2:=HG5.out.cell 2 _ rfl;have g3:=HG5.out.cell 3 _ rfl;have u11:=HG5.out.fz 1;have u12:=HG5.out.fz 2;have u13:=HG5.out.fz 3;obtain ⟨w7,hfold7⟩:∃ q,((w5.setCell ⟨w2.heap.size,1,none⟩ (.string kBN.elem)).setCell ⟨w2.heap.size,2,none⟩ (.string kBN.shape.row)).setCell ⟨w2.heap.size,3,none⟩ (.slice a5 kBN.shape.dims.length c5)=q:=⟨_,rfl⟩
      have HRw:=hJ (((HR5.out.other (a:=⟨w2.heap.size,1,none⟩) (u:=.string kBN.elem) (by show w2.heap.size≠_;omega)).other (a:=⟨w2.heap.size,2,none⟩) (u:=.string kBN.shape.row) (by show w2.heap.size≠_;omega)).other (a:=⟨w2.heap.size,3,none⟩) (u:=.slice a5 kBN.shape.dims.length c5) (by show w2.heap.size≠_;omega));rw [hfold7] at HRw;have hsz2:=HW.out.size;have HWw:Hid (Below w.heap.size w w7):=hJ (by rw [← hfold7];exact (((HBw.out.trans (HB5.out.mono HBw.out.size)).setCell (by show _≤w2.heap.size;omega) _).setCell (by show _≤w2.heap.size;omega) _).setCell (by show _≤w2.heap.size;omega) _);have v0:=HRw.out.cell 0 _ rfl;have v1:=HRw.out.cell 1 _ rfl;have v2:=HRw.out.cell 2 _ rfl;have v3:=HRw.out.cell 3 _ rfl;have v4:=HRw.out.cell 4 _ rfl;have u0:=HRw.out.fz 0;have u1:=HRw.out.fz 1;have u2:=HRw.out.fz 2;have u3:=HRw.out.fz 3;have u4:=HRw.out.fz 4;have hlr:=HRw.out.lt;have HX60:=hJ (((((HRw.out.set 0 (.slice none 0 0)).set 1 (.string ⟨#[]⟩)).set 2 (.string ⟨#[]⟩)).set 3 (.slice none 0 0)).set 4 (.slice none 0 0));have s0:=HX60.out.cell 0 _ rfl;have s1:=HX60.out.cell 1 _ rfl;have s2:=HX60.out.cell 2 _ rfl;have s3:=HX60.out.cell 3 _ rfl;have s4:=HX60.out.cell 4 _ rfl
      go_wp2_with fail
      refine bodyPost_ret (v:=.tuple #[.agg #[.slice none 0 0,.string ⟨#[]⟩,.string ⟨#[]⟩,.slice none 0 0,.slice none 0 0],.int .i64 3]) (by simp [results,results13,go_sem,s0,s1,s2,s3,s4,hlr]) rfl ?_;refine ⟨⟨[.slice none 0 0,.string ⟨#[]⟩,.string ⟨#[]⟩,.slice none 0 0,.slice none 0 0],by rw [HBd.out.2],by rw [HBd.out.1];exact kEL.no ..⟩,?_⟩
      repeat (first | exact HWw.out | refine Below.setCell ?_ (by show _≤w.heap.size+1;omega) _)
    | true =>
      have HokR:=hJ hok;rw [(kCM hok).1,(kCM hok).2.1] at HCx;clear hok
      go_wp2_with fail
      refine HCx.out.mono ?_;rintro e w5 ⟨⟨_,rfl,hr5⟩,hb5⟩;obtain ⟨_,rfl,a5,c5,rfl,hs5⟩:=hr5;obtain ⟨y,hy⟩:∃ y,y=kAS b s.result:=⟨_,rfl⟩
      have HY:=hJ hy;rw [← hy] at hs5 ⊢;clear hy;have HB5:=hJ hb5;have HG5:=hJ (HG.out.below hb5 hlG);have HR5:=hJ (HRr.out.below hb5 HRr.out.lt);have HA5:=hJ (HAr.out.below hb5 HAr.out.lt);have g1:=HG5.out.cell 1 _ rfl;have g2:=HG5.out.cell 2 _ rfl;have g3:=HG5.out.cell 3 _ rfl;have u11:=HG5.out.fz 1;have u12:=HG5.out.fz 2;have u13:=HG5.out.fz 3;obtain ⟨w7,hfold7⟩:∃ q,((w5.setCell ⟨w2.heap.size,1,none⟩ (.string y.elem)).setCell ⟨w2.heap.size,2,none⟩ (.string y.shape.row)).setCell ⟨w2.heap.size,3,none⟩ (.slice a5 y.shape.dims.length c5)=q:=⟨_,rfl⟩
      have hne:∀ g,g<w2.heap.size→w2.heap.size≠g:=fun g hg=>by omega
      have hsz2:=HW.out.size;have HR7:Hid (Bx w7 _ _ _):=hJ (hfold7 ▸ ((HR5.out.other (a:=⟨w2.heap.size,1,none⟩) (hne _ hlR)).other (a:=⟨w2.heap.size,2,none⟩) (hne _ hlR)).other (a:=⟨w2.heap.size,3,none⟩) (hne _ hlR));have HA7:Hid (Bx w7 _ _ _):=hJ (hfold7 ▸ ((HA5.out.other (a:=⟨w2.heap.size,1,none⟩) (hne _ hlA)).other (a:=⟨w2.heap.size,2,none⟩) (hne _ hlA)).other (a:=⟨w2.heap.size,3,none⟩) (hne _ hlA));have HG7:Hid (Bx w7 _ _ _):=hJ (hfold7 ▸ ((HG5.out.set 1 (.string y.elem)).set 2 (.string y.shape.row)).set 3 (.slice a5 y.shape.dims.length c5));have HO7:Hid (Own RTyp 26 (fun q=>w2.heap.size<q) w7 _ _ _):=hJ (hfold7 ▸ (((HO.out.below hb5).set (a:=⟨w2.heap.size,1,none⟩) _ (fun q hq=>Nat.ne_of_gt hq) (Nat.lt_succ_self _)).set (a:=⟨w2.heap.size,2,none⟩) _ (fun q hq=>Nat.ne_of_gt hq) (Nat.lt_succ_self _)).set (a:=⟨w2.heap.size,3,none⟩) _ (fun q hq=>Nat.ne_of_gt hq) (Nat.lt_succ_self _));have HS7:Hid (Sl RLin (fun q=>w2.heap.size<q) w7 _ _ _ _):=hJ (hfold7 ▸ (((hs5.mono (S':=fun q=>w2.heap.size<q) (fun q hq _=>by have hq:wr.heap.size≤q:=hq;omega)).set (ad:=⟨w2.heap.size,1,none⟩) (fun q hq=>Nat.ne_of_lt hq)).set (ad:=⟨w2.heap.size,2,none⟩) (fun q hq=>Nat.ne_of_lt hq)).set (ad:=⟨w2.heap.size,3,none⟩) (fun q hq=>Nat.ne_of_lt hq));have HB7:Hid (Below w2.heap.size w2 w7):=hJ (by rw [← hfold7];exact (((hB.trans (hb5.mono hB.size)).setCell (by exact Nat.le_refl _) _).setCell (by exact Nat.le_refl _) _).setCell (by exact Nat.le_refl _) _);have g4:=HA7.out.cell 4 _ rfl;have hl7:=HG7.out.lt;clear HCx HG HO HAr HRr HA2 HR2 HG5 HR5 HA5 HB5 hb5 hs5 hB HBw
      go_wp2_with fail
      have HMore:Hid (∀ W:World,W.heap[w.heap.size]? =w7.heap[w.heap.size]? →W.cell? ⟨w.heap.size,4,none⟩=some (.slice aq m cq)):=hJ (fun W q=>Bx.cell (w:=W) (q.trans HA7.out) 4 _ rfl)
      go_loopw [60] (fun i wt=>∃ (k:Nat) (v0:Value),k≤m∧i= .int .i64 k∧Hid (∀ j,j<k→kAB (kAD b (s.wh.getD j default))=true)∧Hid (Own RLin 45 (fun q=>w7.heap.size≤q) wt w7.heap.size v0 ((s.wh.take k).map (kAD b)))∧Hid (Bx wt w2.heap.size 29 [.slice a0 m0 c0,.string y.elem,.string y.shape.row,.slice a5 y.shape.dims.length c5,v0])∧Below w2.heap.size w2 wt∧Hid (∀ q,q<w7.heap.size→q≠w2.heap.size→wt.heap[q]? =w7.heap[q]?)∧w7.heap.size≤wt.heap.size) (fun i _=>m - (intOf i).toNat)
      case atStart=>exact ⟨0,_,Nat.zero_le _,rfl,hJ (fun i hi=>absurd hi (by omega)),hJ (Own.nil _ _ _ _ _),HG7,HB7.out,hJ (fun _ _ _=>rfl),Nat.le_refl _⟩
      case round =>
       clear HG7;obtain ⟨k,v0,hk,rfl,HTw,HOw,HG,hB,HKeep,hsz⟩:=hrel;have HBw:=hJ (HW.out.trans (hB.mono HW.out.size));have HRr:Hid (Bx wr _ _ _):=hJ ((HKeep.out _ HR7.out.lt (by omega)).trans HR7.out);have hlG:=HG.out.lt;have hlR:=HRr.out.lt;obtain ⟨a6,m6,c6,rfl⟩:=HOw.out.shape;have y4:=HMore.out wr (HKeep.out _ (by omega) (by omega));by_cases hlt:k<m
       · obtain ⟨b1,off,rfl,hbW,_⟩:=HQs.out.form k hlt
         obtain ⟨t,hr,⟨at_,ct,rfl,hts⟩,e0,e1⟩:=(HQs.out.below HBw.out).lin k hlt;have HK:Hid (k<s.wh.length):=hJ (by rw [HM.out];exact hlt);have HNext:Hid ((s.wh.take (k+1)).map (kAD b)=(s.wh.take k).map (kAD b)++[kAD b (s.wh.getD k default)]):=hJ (by rw [kAY HK.out,List.map_append];rfl);have hkl:((s.wh.take k).map (kAD b)).length=k:=by rw [List.length_map,List.length_take,HM.out];omega
         have HBad:=hJ (fun q=>sch_badW (b:=b) HK.out q);have HUp:=hJ (fun q=>upto HTw.out (p:=fun j=>kAB (kAD b (s.wh.getD j default))=true) q);have HXv:=hJ (HV.out.2.2.2.2 _ (kAJ HK.out));generalize s.wh.getD k default=x at *;generalize (s.wh.take k).map (kAD b)=lk at *;have hA:Below wr.heap.size wr (wr.alloc (.cells #[.int .i64 x.const,.slice at_ x.terms.length ct] 45)):=(Below.refl _ _).alloc (Nat.le_refl _) _;have HCx:=hJ (HCL.out _ (HBw.out.trans (hA.mono HBw.out.size)) x _ (RLin.below hr hA) HXv.out);clear hr hts;cases hvx:kAB (kAD b x) with
         | false =>
           have HBd:=hJ (HBad.out hvx);rw [(lim_bad hvx).2] at HCx;clear hvx;generalize limL (kAD b x)=z at *
           go_wp2_with fail
           refine HCx.out.mono ?_;rintro e w5 ⟨⟨_,rfl,hr5⟩,hb5⟩;obtain ⟨_,rfl,a8,c8,rfl,hs5⟩:=hr5;have HP5:=hJ ((Bx.fresh wr 45 [.int .i64 x.const,.slice at_ x.terms.length ct]).below hb5 (Bx.fresh _ _ _).lt);have p0:=HP5.out.cell 0 _ rfl;have p1:=HP5.out.cell 1 _ rfl;have u10:=HP5.out.fz 0;have u11:=HP5.out.fz 1;have HB5:=hJ (hA.trans (hb5.mono (by simp)));have HR5:=hJ (HRr.out.below HB5.out HRr.out.lt);obtain ⟨w8,hfold8⟩:∃ q,(w5.setCell ⟨wr.heap.size,0,none⟩ (.int .i64 z.const)).setCell ⟨wr.heap.size,1,none⟩ (.slice a8 z.terms.length c8)=q:=⟨_,rfl⟩
           have HRw:=hJ (HR5.out.other2 (g':=wr.heap.size) (by omega) (.int .i64 z.const) (.slice a8 z.terms.length c8));rw [hfold8] at HRw;have HWw:Hid (Below w.heap.size w w8):=hJ (by rw [← hfold8];exact ((HBw.out.trans (HB5.out.mono HBw.out.size)).setCell (by show _≤wr.heap.size;omega) _).setCell (by show _≤wr.heap.size;omega) _);have v0:=HRw.out.cell 0 _ rfl;have v1:=HRw.out.cell 1 _ rfl;have v2:=HRw.out.cell 2 _ rfl;have v3:=HRw.out.cell 3 _ rfl;have v4:=HRw.out.cell 4 _ rfl;have u0:=HRw.out.fz 0;have u1:=HRw.out.fz 1;have u2:=HRw.out.fz 2;have u3:=HRw.out.fz 3;have u4:=HRw.out.fz 4;have hlr:=HRw.out.lt;have HX60:=hJ (((((HRw.out.set 0 (.slice none 0 0)).set 1 (.string ⟨#[]⟩)).set 2 (.string ⟨#[]⟩)).set 3 (.slice none 0 0)).set 4 (.slice none 0 0));have s0:=HX60.out.cell 0 _ rfl;have s1:=HX60.out.cell 1 _ rfl;have s2:=HX60.out.cell 2 _ rfl;have s3:=HX60.out.cell 3 _ rfl;have s4:=HX60.out.cell 4 _ rfl
           go_wp2_with fail
           refine bodyPost_ret (v:=.tuple #[.agg #[.slice none 0 0,.string ⟨#[]⟩,.string ⟨#[]⟩,.slice none 0 0,.slice none 0 0],.int .i64 3]) (by simp [results,results13,go_sem,s0,s1,s2,s3,s4,hlr]) rfl ?_;refine ⟨⟨[.slice none 0 0,.string ⟨#[]⟩,.string ⟨#[]⟩,.slice none 0 0,.slice none 0 0],by rw [HBd.out.2],by rw [HBd.out.1];exact kEL.no ..⟩,?_⟩
           repeat (first | exact HWw.out | refine Below.setCell ?_ (by show _≤w.heap.size+1;omega) _)
         | true =>
           have HUp2:=hJ (HUp.out hvx);clear HUp;rw [(kET hvx).1,(kET hvx).2] at HCx;clear hvx HBad
           go_wp2_with fail
           refine HCx.out.mono ?_;rintro e w5 ⟨⟨_,rfl,hr5⟩,hb5⟩;obtain ⟨_,rfl,a8,c8,rfl,hs5⟩:=hr5;generalize kAD b x=z at *;have HP5:=hJ ((Bx.fresh wr 45 [.int .i64 x.const,.slice at_ x.terms.length ct]).below hb5 (Bx.fresh _ _ _).lt);have p0:=HP5.out.cell 0 _ rfl;have p1:=HP5.out.cell 1 _ rfl;have u10:=HP5.out.fz 0;have u11:=HP5.out.fz 1;have HB5:=hJ (hA.trans (hb5.mono (by simp)));obtain ⟨w8,hfold8⟩:∃ q,(w5.setCell ⟨wr.heap.size,0,none⟩ (.int .i64 z.const)).setCell ⟨wr.heap.size,1,none⟩ (.slice a8 z.terms.length c8)=q:=⟨_,rfl⟩
           have HB8:Hid (Below wr.heap.size wr w8):=hJ (by rw [← hfold8];exact (HB5.out.setCell (by exact Nat.le_refl _) _).setCell (by exact Nat.le_refl _) _);have HP8:=hJ ((HP5.out.set 0 (.int .i64 z.const)).set 1 (.slice a8 z.terms.length c8));rw [hfold8] at HP8;have r0:=HP8.out.cell 0 _ rfl;have r1:=HP8.out.cell 1 _ rfl
           have HS8:Hid (Sl kA2 (fun q=>wr.heap.size≤q) w8 a8 z.terms.length c8 z.terms):=hJ (by
            rw [← hfold8]
            have h1:=hs5.mono (S':=fun q=>wr.heap.size<q) (fun q hq _=>by have hq:wr.heap.size+1≤q:=by simpa using hq
                                                                          omega)
            refine Sl.mono (S:=fun q=>wr.heap.size<q) ?_ (fun q hq _=>Nat.le_of_lt hq);exact (h1.set (fun q hq=>Nat.ne_of_lt hq)).set (fun q hq=>Nat.ne_of_lt hq))
           clear hs5 hb5 HP5;have HG8:=hJ (HG.out.below HB8.out hlG);have g4:=HG8.out.cell 4 _ rfl;have hs8:=HB8.out.size;have HRY:Hid (RLin.rd (fun q=>w7.heap.size≤q∧(Value.slice a6 m6 c6).ownBlock≠some q) w8 [.int .i64 z.const,.slice a8 z.terms.length c8] z):=hJ ⟨_,rfl,a8,c8,rfl,HS8.out.mono (fun q hq _=>⟨by have:wr.heap.size≤q:=hq;omega,fun e=>by have h8:=(HOw.out.block e).2;have:wr.heap.size≤q:=hq;omega⟩)⟩;clear HS8
           go_wp2_with (at_builtin;refine kAZ kBP rfl _ _ rfl w7.heap.size _ _ rfl ((HOw.out.below HB8.out).alloc _) _ z [.int .i64 z.const,.slice a8 z.terms.length c8] rfl (RLin.below HRY.out ((Below.refl _ _).alloc (Nat.le_refl _) _)) (kA3 45 (by (simp only [kAI,kAH,Array.getElem?_push,Array.size_push];simp))) (by omega) (by unfold maxLen;omega) (by simp;omega) ?_;intro v9 w9 hown9 hb9 hk9;obtain ⟨a9,m9,c9,rfl⟩:=hown9.shape;have HG9:=hJ ((HG8.out.alloc _).kp hk9 (HOw.out.ne hl7));have g9:=HG9.out.cell 4 _ rfl;have u9:=HG9.out.fz 4)
           go_roundw
           case rel=>exact ⟨k+1,_,by omega,by go_num,HUp2,hJ (by rw [HNext.out];exact hown9.set _ (fun q hq=>Nat.ne_of_gt (Nat.lt_of_lt_of_le hl7 hq)) hl7),hJ (HG9.out.set 4 _),((hB.trans (HB8.out.mono hB.size)).trans (((Below.refl _ _).alloc (by omega) _).trans (hb9.mono (Nat.le_of_lt hl7)))).setCell (Nat.le_refl _) _,hJ (fun q hq hne=>(kAA (fun e=>hne e.symm)).trans ((((Below.refl _ _).alloc (B:=w7.heap.size) (by omega) _).trans hb9).block q hq |>.trans ((HB8.out.block q (by omega)).trans (HKeep.out q hq hne)))),by have:=hb9.size;simp at this ⊢;omega⟩
           case measure=>simp [intOf];omega
       · obtain rfl:k=m:=by omega
         replace HS7:=hJ (HS7.out.mono (S':=fun q=>X q∨w2.heap.size<q) (fun q hq _=>.inr hq));replace HO7:=hJ (HO7.out.mono (S':=fun q=>X q∨w2.heap.size<q) (fun q hq _=>.inr hq));have HAll:Hid ((s.wh.take k).map (kAD b)=s.wh.map (kAD b)):=hJ (by rw [List.take_of_length_le (by rw [HM.out];exact Nat.le_refl _)]);rw [HAll.out] at HOw;obtain ⟨z1,z2⟩:=HGood.out HT.out HokR.out HTw.out;have HZ1:=hJ z1;have HZ2:=hJ z2;clear z1 z2;have g0:=HG.out.cell 0 _ rfl;have g1:=HG.out.cell 1 _ rfl;have g2:=HG.out.cell 2 _ rfl;have g3:=HG.out.cell 3 _ rfl;have g4:=HG.out.cell 4 _ rfl;have v0:=HRr.out.cell 0 _ rfl;have v1:=HRr.out.cell 1 _ rfl;have v2:=HRr.out.cell 2 _ rfl;have v3:=HRr.out.cell 3 _ rfl;have v4:=HRr.out.cell 4 _ rfl;have u0:=HRr.out.fz 0;have u1:=HRr.out.fz 1;have u2:=HRr.out.fz 2;have u3:=HRr.out.fz 3;have u4:=HRr.out.fz 4;have hlr:=HRr.out.lt;have HX60:=hJ (((((HRr.out.set 0 (.slice a0 m0 c0)).set 1 (.string y.elem)).set 2 (.string y.shape.row)).set 3 (.slice a5 y.shape.dims.length c5)).set 4 (.slice a6 m6 c6));have s0:=HX60.out.cell 0 _ rfl;have s1:=HX60.out.cell 1 _ rfl;have s2:=HX60.out.cell 2 _ rfl;have s3:=HX60.out.cell 3 _ rfl;have s4:=HX60.out.cell 4 _ rfl
         go_wp2_with fail
         refine bodyPost_ret (v:=.tuple #[.agg #[.slice a0 m0 c0,.string y.elem,.string y.shape.row,.slice a5 y.shape.dims.length c5,.slice a6 m6 c6],.int .i64 0]) (by simp [results,results13,go_sem,s0,s1,s2,s3,s4,hlr]) rfl ?_;refine ⟨⟨[.slice a0 m0 c0,.string y.elem,.string y.shape.row,.slice a5 y.shape.dims.length c5,.slice a6 m6 c6],by rw [HZ2.out],?_⟩,?_⟩
         · rw [HZ1.out]
           refine kEZ.plain (X:=X) ?_ HX0.out
           have hXq:∀ q,(X q∨w2.heap.size<q)→w2.heap.size≠q∧w.heap.size+1≠q∧(X q∨w.heap.size≤q):=fun q hq=>by
            rcases hq with r | r
            · have:=HXw.out q r;exact ⟨by omega,by omega,.inl r⟩
            · exact ⟨by omega,by omega,.inr (by omega)⟩
           have q2:=(HS7.out.mono (S':=fun q=>(X q∨w2.heap.size<q)∧q<w7.heap.size) (fun q hq hlt=>⟨hq,hlt⟩)).frame (w':=wr) (fun q hq hlt=>HKeep.out q hlt (Ne.symm (hXq q hq.1).1));obtain ⟨a10,c10,e10,q1⟩:=HO7.out.sl;have q1:=(q1.mono (S':=fun q=>(X q∨w2.heap.size<q)∧q<w7.heap.size) (fun q hq hlt=>⟨hq.elim id .inr,hlt⟩)).frame (w':=wr) (fun q hq hlt=>HKeep.out q hlt (Ne.symm (hXq q hq.1).1));rw [Value.slice.injEq] at e10;obtain ⟨rfl,rfl,rfl⟩:=e10
           have hR2:∀ {α :Type} {R:Rep α} {a:Option Addr} {n c:Nat} {l:List α},Sl R (fun q=>(X q∨w2.heap.size<q)∧q<w7.heap.size) wr a n c l→Sl R (fun k=>(X k∨w.heap.size≤k)∧k<w7.heap.size) (((((wr.setCell ⟨w.heap.size+1,0,none⟩ (.slice a0 (s.params.map (kAS b)).length c0)).setCell ⟨w.heap.size+1,1,none⟩ (.string y.elem)).setCell ⟨w.heap.size+1,2,none⟩ (.string y.shape.row)).setCell ⟨w.heap.size+1,3,none⟩ (.slice a5 y.shape.dims.length c5)).setCell ⟨w.heap.size+1,4,none⟩ (.slice a6 m6 c6)) a n c l:=by
            intro α R a n c l hs;have hne:∀ q,((X q∨w2.heap.size<q)∧q<w7.heap.size)→w.heap.size+1≠q:=fun q hq=>(hXq q hq.1).2.1
            exact (((((hs.set hne).set hne).set hne).set hne).set hne).mono (fun q hq _=>⟨(hXq q hq.1).2.2,hq.2⟩)
           have hS3:∀ q,w7.heap.size≤q→q≠w.heap.size+1:=fun q hq=>by omega
           have hl3:w.heap.size+1<w7.heap.size:=by omega
           refine ⟨w7.heap.size,_,_,_,by omega,by rw [HY.out];rfl,⟨a0,c0,rfl,hR2 q1⟩,⟨a5,c5,by first | rfl | (rw [HY.out];rfl),?_⟩,((((HOw.out.set _ hS3 hl3).set _ hS3 hl3).set _ hS3 hl3).set _ hS3 hl3).set _ hS3 hl3⟩;have:=hR2 q2
           show Sl RLin _ _ a5 (kAS b s.result).shape.dims.length c5 (kAS b s.result).shape.dims
           rw [← HY.out];exact this
         · repeat (first | exact HBw.out | refine Below.setCell ?_ (by show _≤w.heap.size+1;omega) _)
def canErr (s:Sch):Int:=if kAM s then kCE (ren (kBW s)) s else 1
theorem can_no {s:Sch} (h:kAM s=false):canErr s=1∧can s=kDT:=by
 unfold canErr can canOk kB7;rw [h];exact ⟨rfl,rfl⟩
theorem can_bad {s:Sch} (hv:kAM s=true) (h:kB7 (ren (kBW s)) s=false):canErr s=3∧can s=kDT:=by
 unfold canErr can canOk;rw [hv,h,(sch_no h).2];exact ⟨rfl,rfl⟩
theorem can_good {s:Sch} (hv:kAM s=true) (h:kB7 (ren (kBW s)) s=true):canErr s=0∧can s=⟨s.params.map (kAS (ren (kBW s))),kAS (ren (kBW s)) s.result,tidy (s.wh.map (kAD (ren (kBW s))))⟩:=by
 unfold canErr can canOk;rw [hv,h];refine ⟨?_,rfl⟩
 show kCE _ _=0
 unfold kCE;rw [h];rfl
theorem Raw.set2 {k:Nat} {E:TypeId} {w:World} {g:Nat} {css:List (List Value)} {rest:List Value} (h:Raw k E w g css rest) {i:Nat} {cs:List Value} (hi:css[i]? =some cs) {j j2:Nat} (hj:j<k) (hj2:j2<k) (u u2:Value):Raw k E ((w.setCell ⟨g,i * k+j,none⟩ u).setCell ⟨g,i * k+j2,none⟩ u2) g (css.set i ((cs.set j u).set j2 u2)) rest:=by
 have hl:i<css.length:=by
  rcases Nat.lt_or_ge i css.length with q | q
  · exact q
  · rw [List.getElem?_eq_none q] at hi;cases hi
 have h2:=(h.set hi hj u).set (i:=i) (cs:=cs.set j u) (List.getElem?_set_self hl) hj2 u2
 rwa [List.set_set] at h2
theorem itoa_nat (n:Nat) (hn:n≤100000) (w:World) (E:Env w):Calls Tryz.prog 88 #[.int .i64 n] w fun e w'=>e= .returned (.string (decS n))∧Below w.heap.size w w':=by
 have h:=kG1 (n:Int) (by omega) (by omega) w E;have e:Lib.itoa (n:Int)=Lib.decDigits n:=by unfold Lib.itoa;rw [if_neg (by omega)];simp
 rw [e] at h;exact h
theorem canonical_1 {S:Blk} {x:Lin} {cs:List Value} {w:World} (h:RLin.rd S w cs x) :
 Calls Tryz.prog 91 #[.agg cs.toArray] w fun e w'=>e= .returned (.bool (dropL x))∧Below w.heap.size w w':=by
 have HC:=hJ (fun (W:World) (hW:Below w.heap.size w W)=>linear_Const (RLin.below h hW));obtain ⟨t,rfl,a,c,rfl,hs⟩:=h;have HD:Hid (dropL x=(x.terms.length==0 && decide (0≤x.const))):=hJ rfl;clear hs;obtain ⟨B0,ya,hW0⟩:=box1 w 45 [.int .i64 x.const,.slice a x.terms.length c];have xa0:=box0 ya 0 _ rfl;have xa1:=box0 ya 1 _ rfl;clear ya;generalize x.terms.length=n at *;by_cases h0:n=0
 · have HC2:Hid (∀ W,Below w.heap.size w W→Calls Tryz.prog 92 #[.agg #[.int .i64 x.const,.slice a n c]] W fun e w'=>e= .returned (.tuple #[.int .i64 x.const,.bool true])∧Below W.heap.size W w'):=hJ (fun W hW=>by have:=HC.out W hW;rwa [if_pos h0,decide_eq_true h0] at this)
   have HD2:Hid (dropL x=decide (0≤x.const)):=hJ (by rw [HD.out,show (n==0)=true by simpa using h0];rfl);clear HC h0;go_enter func91,ntmps91
   go_wp2_with fail
   refine (HC2.out _ B0.out).mono ?_;rintro e w1 ⟨rfl,hb⟩
   go_wp2_with fail
   go_ret;exact ⟨by rw [HD2.out];rfl,B0.out.trans (hb.mono B0.out.size)⟩
 · have HC2:Hid (∀ W,Below w.heap.size w W→Calls Tryz.prog 92 #[.agg #[.int .i64 x.const,.slice a n c]] W fun e w'=>e= .returned (.tuple #[.int .i64 0,.bool false])∧Below W.heap.size W w'):=hJ (fun W hW=>by have:=HC.out W hW;rwa [if_neg h0,decide_eq_false h0] at this)
   have HD2:Hid (dropL x=false):=hJ (by rw [HD.out,show (n==0)=false by simpa using h0];rfl);clear HC h0;go_enter func91,ntmps91
   go_wp2_with fail
   refine (HC2.out _ B0.out).mono ?_;rintro e w1 ⟨rfl,hb⟩
   go_wp2_with fail
   go_ret;exact ⟨by rw [HD2.out];rfl,B0.out.trans (hb.mono B0.out.size)⟩
theorem ins_perm (s:Str) (c:Int):∀ (l:List Coef),(∀ t ∈ l,seq t.v s=false)→(ins s c l).Perm (⟨s,c⟩ :: l)
 | [],_=>List.Perm.refl _
 | t :: l,h=>by
   unfold ins
   split
   · exact List.Perm.refl _
   · rw [if_neg (by rw [h t (List.mem_cons_self ..)];decide)]
     exact ((ins_perm s c l (fun u hu=>h u (List.mem_cons_of_mem _ hu))).cons t).trans (List.Perm.swap _ _ _)
theorem plus_perm {l:List Coef} (hs:Srt l) (hz:Nz l) {s:Str} {c:Int} (hc:c≠0) (h:∀ t ∈ l,seq t.v s=false):(plus l s c).Perm (⟨s,c⟩ :: l):=by
 unfold plus;rw [kDK hs];have hp:=ins_perm s c l h
 have e:(ins s c l).filter nzB=ins s c l:=List.filter_eq_self.2 fun t ht=>by
  have:t.c≠0:=by
   rcases List.mem_cons.1 (hp.mem_iff.1 ht) with q | q
   · rw [q];exact hc
   · exact hz t q
  unfold nzB;exact bne_iff_ne.2 this
 rw [e];exact hp
def renT (f:Str→Str) (l:List Coef):List Coef:=l.map (fun t=>⟨f t.v,t.c⟩)
structure RunOk (f:Str→Str) (c:Int) (done:List Coef) (acc:Lin):Prop where
 con:acc.const=c
 srt:Srt acc.terms
 nz:Nz acc.terms
 perm:acc.terms.Perm (renT f done)
theorem RunOk.step {f:Str→Str} {c:Int} {done:List Coef} {acc:Lin} (h:RunOk f c done acc) {t:Coef} (ht:t.c≠0) (hn:∀ d ∈ done,f d.v≠f t.v):RunOk f c (done++[t]) (kB3 acc (varL (f t.v)) t.c):=by
 have e:(kB3 acc (varL (f t.v)) t.c).terms=plus acc.terms (f t.v) t.c:=by
  show plus acc.terms (f t.v) (t.c * 1)=_
  rw [Int.mul_one]
 refine ⟨?_,?_,?_,?_⟩
 · show acc.const+t.c * 0=c
   rw [Int.mul_zero,Int.add_zero];exact h.con
 · rw [e];exact kFQ h.srt _ _
 · rw [e];exact plus_nz _ _ _
 · rw [e]
   have hp:=plus_perm h.srt h.nz ht (s:=f t.v) (fun u hu=>by
    obtain ⟨d,hd,q⟩:=List.mem_map.1 (h.perm.mem_iff.1 hu);rw [Bool.eq_false_iff];intro q2;have q3:=(kA5 _ _).1 q2;rw [← q] at q3;exact hn d hd q3)
   refine hp.trans ?_;unfold renT;rw [List.map_append];exact ((h.perm).cons _).trans (List.perm_append_singleton _ _).symm
theorem subRun_ren {b:List Bnd} {f:Str→Str} {c:Int}:∀ (ts done:List Coef) (acc:Lin),(∀ t ∈ ts,sub1 b t.v=varL (f t.v)∧t.c≠0)→(done++ts).Pairwise (fun a b=>f a.v≠f b.v)→RunOk f c done acc→RunOk f c (done++ts) (ts.foldl (fun acc t=>kB3 acc (sub1 b t.v) t.c) acc)
 | [],done,acc,_,_,h=>by rw [List.append_nil];exact h
 | t :: ts,done,acc,hs,hp,h=>by
   have h1:=hs t (List.mem_cons_self ..);have hn:∀ d ∈ done,f d.v≠f t.v:=fun d hd=>(List.pairwise_append.1 hp).2.2 d hd t (List.mem_cons_self ..)
   have:=subRun_ren (b:=b) ts (done++[t]) _ (fun u hu=>hs u (List.mem_cons_of_mem _ hu)) (by rw [List.append_assoc];exact hp) (h.step h1.2 hn);rw [List.append_assoc,← h1.1] at this;exact this
def Has (l:List Bnd) (k:Int) (v:Str):Prop:=l.any (isB k v)=true
theorem isB_iff {k:Int} {v:Str} {x:Bnd}:isB k v x=true ↔ x.kind=k∧x.v=v:=by
 unfold isB;rw [Bool.and_eq_true,beq_iff_eq];exact ⟨fun h=>⟨h.1,(kA5 x.v v).1 h.2⟩,fun h=>⟨h.1,(kA5 x.v v).2 h.2⟩⟩
theorem has_app {l m:List Bnd} {k:Int} {v:Str} (h:Has l k v):Has (l++m) k v:=by unfold Has at *;rw [List.any_append,h];rfl
theorem Has.add {l:List Bnd} {k:Int} {v:Str} (h:Has l k v) (k':Int) (v':Str):Has (addV l k' v') k v:=by
 unfold addV
 split
 · exact h
 · exact has_app h
theorem has_add (l:List Bnd) (k:Int) (v:Str):Has (addV l k v) k v:=by
 unfold addV
 split
 · next q =>
   cases e:l.any (isB k v) with
   | true=>exact e
   | false=>have:=kEH.2 e;omega
 · unfold Has
   rw [List.any_append];have:isB k v (bare k v)=true:=isB_iff.2 ⟨rfl,rfl⟩;simp [this]
theorem has_all {k:Int} {v:Str}:∀ (ns:List Str) (l:List Bnd),Has l k v→Has (addAll l ns) k v
 | [],l,h=>h
 | n :: ns,l,h=>has_all ns (addV l 1 n) (h.add 1 n)
theorem has_in {n:Str}:∀ (ns:List Str) (l:List Bnd),n ∈ ns→Has (addAll l ns) 1 n
 | [],l,h=>by simp at h
 | m :: ns,l,h=>by
   show Has (addAll (addV l 1 m) ns) 1 n
   rcases List.mem_cons.1 h with q | q
   · rw [q];exact has_all ns _ (has_add l 1 m)
   · exact has_in ns _ q
theorem has_varsTy {t:Typ} (h:kAE t=true) {x:Lin} (hx:x ∈ t.shape.dims) {n:Str} (hn:n ∈ kAL x):Has (kA6 t) 1 n:=by
 have hs:kAG t.shape=true:=by unfold kAE at h;rw [Bool.and_eq_true] at h;exact h.2
 have hv:Has (kBV t.shape) 1 n:=by
  unfold kBV;rw [if_pos hs];exact has_in _ _ (List.mem_flatMap.2 ⟨x,hx,hn⟩)
 unfold kA6;rw [if_pos h]
 split
 · exact hv.add _ _
 · exact hv
def ax1:Str:=⟨#[40,91,114,46,46,93,105,110,116,44,32,91,110,93,65,41,32,45,62,32,91,110,93,65,32,119,104,101,114,101,32,110,45,49,44,32,109,43,110]⟩
def as1:Sch:=⟨[⟨⟨#[105,110,116]⟩,⟨⟨#[114]⟩,[]⟩⟩,⟨⟨#[65]⟩,⟨⟨#[]⟩,[⟨0,[⟨⟨#[110]⟩,1⟩]⟩]⟩⟩],⟨⟨#[65]⟩,⟨⟨#[]⟩,[⟨0,[⟨⟨#[110]⟩,1⟩]⟩]⟩⟩,[⟨-1,[⟨⟨#[110]⟩,1⟩]⟩,⟨0,[⟨⟨#[109]⟩,1⟩,⟨⟨#[110]⟩,1⟩]⟩]⟩
theorem av1:kAM as1=true:=by kernel_rfl
def ax2:Str:=⟨#[40,91,114,49,46,46,93,105,110,116,44,32,91,110,49,93,65,49,41,32,45,62,32,91,110,49,93,65,49,32,119,104,101,114,101,32,110,49,45,49,44,32,110,49,43,110,50]⟩
def as2:Sch:=⟨[⟨⟨#[105,110,116]⟩,⟨⟨#[114,49]⟩,[]⟩⟩,⟨⟨#[65,49]⟩,⟨⟨#[]⟩,[⟨0,[⟨⟨#[110,49]⟩,1⟩]⟩]⟩⟩],⟨⟨#[65,49]⟩,⟨⟨#[]⟩,[⟨0,[⟨⟨#[110,49]⟩,1⟩]⟩]⟩⟩,[⟨-1,[⟨⟨#[110,49]⟩,1⟩]⟩,⟨0,[⟨⟨#[110,49]⟩,1⟩,⟨⟨#[110,50]⟩,1⟩]⟩]⟩
theorem av2:kAM as2=true:=by kernel_rfl
def ax3:Str:=⟨#[40,91,110,93,65,41,32,45,62,32,65]⟩
def as3:Sch:=⟨[⟨⟨#[65]⟩,⟨⟨#[]⟩,[⟨0,[⟨⟨#[110]⟩,1⟩]⟩]⟩⟩],⟨⟨#[65]⟩,⟨⟨#[]⟩,[]⟩⟩,[]⟩
theorem av3:kAM as3=true:=by kernel_rfl
def ax4:Str:=⟨#[40,91,51,93,105,110,116,41,32,45,62,32,105,110,116]⟩
def as4:Sch:=⟨[⟨⟨#[105,110,116]⟩,⟨⟨#[]⟩,[⟨3,[]⟩]⟩⟩],⟨⟨#[105,110,116]⟩,⟨⟨#[]⟩,[]⟩⟩,[]⟩
theorem av4:kAM as4=true:=by kernel_rfl
theorem at1:kCX as1=ax1:=by kernel_rfl
theorem at2:kCX as2=ax2:=by kernel_rfl
theorem at3:kCX as3=ax3:=by kernel_rfl
theorem at4:kCX as4=ax4:=by kernel_rfl
theorem ar1:readS ax1=some as1:=by rw [← at1];exact readS_back av1
theorem ar3:readS ax3=some as3:=by rw [← at3];exact readS_back av3
theorem ar4:readS ax4=some as4:=by rw [← at4];exact readS_back av4
theorem ac1:can as1=as2∧canErr as1=0:=by constructor <;> kernel_rfl
theorem ap2:kF2 as2=ax2:=by unfold kF2;rw [if_pos av2];exact at2
structure Kc (B g:Nat) (w w':World):Prop where
 os:w'.os=w.os
 tape:w'.tape=w.tape
 output:w'.output=w.output
 size:w.heap.size≤w'.heap.size
 block:∀ q,q<B→q≠g→w'.heap[q]? =w.heap[q]?
theorem Kc.of_below {B g:Nat} {w w':World} (h:Below B w w'):Kc B g w w':=⟨h.os,h.tape,h.output,h.size,fun q hq _=>h.block q hq⟩
theorem Kc.set {B g:Nat} {a b:World} (h:Kc B g a b) (o:Nat) (u:Value):Kc B g a (b.setCell ⟨g,o,none⟩ u):=⟨h.os,h.tape,h.output,by simpa using h.size,fun q hq hne=>(kAA (fun e=>hne e.symm)).trans (h.block q hq hne)⟩
theorem Kc.later {B g:Nat} {a b c:World} (h:Kc B g a b) (k:Below B b c):Kc B g a c:=⟨k.os.trans h.os,k.tape.trans h.tape,k.output.trans h.output,Nat.le_trans h.size k.size,fun q hq hne=>(k.block q hq).trans (h.block q hq hne)⟩
theorem Sl.void {α :Type} {R:Rep α} {S S':Blk} {w w':World} {a:Option Addr} {c:Nat} (h:Sl R S w a 0 c []):Sl R S' w' a 0 c []:=⟨h.len,h.cap,h.max,h.nil,fun i x hx=>by simp at hx⟩
theorem av3_vars:kBW as3=[⟨1,nnS,⟨0,[]⟩,⟨⟨#[]⟩,[]⟩,⟨#[]⟩⟩,⟨3,aS,⟨0,[]⟩,⟨⟨#[]⟩,[]⟩,⟨#[]⟩⟩]:=by kernel_rfl
theorem bd3_hit:kAU [bd3] 1 nnS=0:=by kernel_rfl
theorem mat_dims {S T U:Blk} {w:World} {bm base:Nat} {ab ap at_:Option Addr} {cb cp ct:Nat} {cs:List Value} (hM:Bx w bm 113 [.slice ab 1 cb,.slice ap 1 cp,.slice at_ 1 ct]) (hB:Own RBnd 47 (fun _=>False) w base (.slice ab 1 cb) [bA]) (hbase:base≤w.heap.size) (hbm:bm<base) (hp:Sl RLin S w ap 1 cp [pL]) (ht:Sl RLin T w at_ 1 ct [tL]) (hs:RSch.rd U w cs as3) (E:Env w) :
 Calls Tryz.prog 98 #[.pointer (some ⟨bm,0,none⟩),.agg cs.toArray] w fun e w'=>e= .returned (.int .i64 0)∧(∃ ad cd,Bx w' bm 113 [.slice ad 2 cd,.slice ap 1 cp,.slice at_ 1 ct]∧Own RBnd 47 (fun _=>False) w' base (.slice ad 2 cd) [bA,bd3])∧Kc base bm w w':=by
 have hml:=hM.lt;have HP:=hJ hp;have HT:=hJ ht;have HV:=hJ (fun (W:World) (hW:Below w.heap.size w W)=>types_Vars (RSch.below hs hW) av3 (E.below hW));rw [av3_vars] at HV;have HE:=hJ (fun (W:World) (hW:Below w.heap.size w W)=>E.below hW);have HM:=hJ hM;have HO:=hJ hB;obtain ⟨_,_,_,rfl,⟨p1,d1,rfl,_⟩,⟨p2,d2,rfl,_⟩,⟨p3,d3,rfl,_⟩⟩:=hs;clear hM hB hp ht E;obtain ⟨B0,ya,hW0⟩:=box1 w 29 [.slice p1 as3.params.length d1,.string as3.result.elem,.string as3.result.shape.row,.slice p2 as3.result.shape.dims.length d2,.slice p3 as3.wh.length d3];have xa0:=box0 ya 0 _ rfl;have xa1:=box0 ya 1 _ rfl;have xa2:=box0 ya 2 _ rfl;have xa3:=box0 ya 3 _ rfl;have xa4:=box0 ya 4 _ rfl;have bka:Bx _ _ _ _:=ya;clear ya;have HX:=hJ bka;have HM1:=hJ (HM.out.below B0.out hml);clear bka HM;have m1:=HM1.out.cell 1 _ rfl;have m2:=HM1.out.cell 2 _ rfl;have HQ:=hJ (fun (W:World) (hW:Below w.heap.size w W)=>eqn_Match (HP.out.below hW) (HT.out.below hW) (HE.out W hW));go_enter func98,ntmps98
 go_upto_region 1 with fail
 generalize (w.alloc (.cells #[.slice p1 as3.params.length d1,.string as3.result.elem,.string as3.result.shape.row,.slice p2 as3.result.shape.dims.length d2,.slice p3 as3.wh.length d3] 29))=W1 at *
 go_cut [5,6] (fun v5 v6 W=>∃ am cm,v5= .slice am 1 cm∧v6= .int .i64 0∧Hid (Sl RBnd (fun q=>w.heap.size<q) W am 1 cm [bd3])∧Hid (Below W1.heap.size W1 W))
 case first =>
  have hb1:=(Below.refl W1.heap.size W1).drew
  go_region_held3 (fun W=>W.cell? ⟨bm,1,none⟩=some (.slice ap 1 cp)∧W.cell? ⟨bm,2,none⟩=some (.slice at_ 1 ct)) (first | (with_reducible exact ⟨m1,m2⟩) | (with_reducible exact ⟨z1,z2⟩) | go_keep) (first
   | (go_at_call 157
      refine (HQ.out W1.drew (B0.out.drew)).mono ?_;rintro e w2 ⟨⟨am,cm,rfl,hbm2⟩,hb2⟩;have hB2:Below W1.heap.size W1 w2:=hb1.trans hb2;have z1:=kAF m1 _ hB2;have z2:=kAF m2 _ hB2)
   | (go_at_call 157
      refine (HQ.out W1 B0.out).mono ?_;rintro e w2 ⟨⟨am,cm,rfl,hbm2⟩,hb2⟩;have hB2:Below W1.heap.size W1 w2:=hb2;have z1:=kAF m1 _ hB2;have z2:=kAF m2 _ hB2))
  all_goals
   have HR:=hJ (hbm2.mono (S':=fun q=>w.heap.size<q) fun q hq _=>by have hq:W1.heap.size≤q:=hq;rw [hW0] at hq;omega);have HBz:=hJ hB2;clear z1 z2 hbm2 hb2 hB2
   go_wp2_with fail
   go_meet
   exact ⟨am,cm,rfl,rfl,HR,HBz⟩
 case rest =>
  obtain ⟨am,cm,rfl,rfl,HMt,HBc⟩:=hcut;clear m1 m2 xa0 xa1 xa2 xa3 xa4 HQ;have HB2:=hJ (B0.out.trans (HBc.out.mono (by rw [hW0];omega)));have HX2:=hJ (HX.out.below HBc.out HX.out.lt);have HM2:=hJ (HM1.out.below HBc.out HM1.out.lt);have xa0:=HX2.out.cell 0 _ rfl;have xa1:=HX2.out.cell 1 _ rfl;have xa2:=HX2.out.cell 2 _ rfl;have xa3:=HX2.out.cell 3 _ rfl;have xa4:=HX2.out.cell 4 _ rfl;clear HX HM1 HBc
  go_wp2_with fail
  refine (HV.out wc HB2.out).mono ?_;rintro e w3 ⟨⟨v,rfl,hv3⟩,hb3⟩;obtain ⟨av,cv,rfl,hv4⟩:=hv3.sl;have hv4:Sl RBnd (fun k=>False∨wc.heap.size≤k) w3 av 2 cv _:=hv4;have HV3:=hJ (hv4.mono (S':=fun k=>w.heap.size≤k∧k<w3.heap.size) fun k hk hlt=>⟨by have hk:wc.heap.size≤k:=hk.elim False.elim id;have:=HB2.out.size;omega,hlt⟩);have HB3:=hJ (HB2.out.trans (hb3.mono HB2.out.size));have HM3:=hJ (HM2.out.below hb3 HM2.out.lt);have HMt3:=hJ (HMt.out.below hb3);have hz3:=hb3.size;clear hv3 hv4 hb3 HV HX2 HM2 HMt xa0 xa1 xa2 xa3 xa4 HB2
  go_wp2_with fail
  refine wp_loop_rounds 3 ?_;rw [rounds_succ];obtain ⟨vb,vo,rfl,hvb,_⟩:=HV3.out.form 0 (by show 0<2;decide);obtain ⟨_,_,_,⟨⟨ta,tc,rfl,_⟩,⟨da,dc,rfl,hda⟩⟩,e0,e1,e2,e3,e4,e5,e6⟩:=HV3.out.bnd 0 (by show 0<2;decide);have c0:w3.cell? ⟨vb,vo,none⟩=some (.int .i64 1):=e0;have c1:w3.cell? ⟨vb,vo+1,none⟩=some (.string nnS):=e1;have c2:w3.cell? ⟨vb,vo+2,none⟩=some (.int .i64 0):=e2;have c3:w3.cell? ⟨vb,vo+3,none⟩=some (.slice ta 0 tc):=e3;have c4:w3.cell? ⟨vb,vo+4,none⟩=some (.string ⟨#[]⟩):=e4;have c5:w3.cell? ⟨vb,vo+5,none⟩=some (.slice da 0 dc):=e5;have c6:w3.cell? ⟨vb,vo+6,none⟩=some (.string ⟨#[]⟩):=e6;have hda:Sl RLin _ w3 da 0 dc []:=hda;have HDa:=hJ (fun W=>hda.void (S':=fun k=>False∧(Value.slice ab 1 cb).ownBlock≠some k) (w':=W));clear e0 e1 e2 e3 e4 e5 e6 hv4 hda;have HF:=hJ (fun (W:World) (hW:Below w3.heap.size w3 W)=>kE0 [bd3] am 1 cm W (HMt3.out.below hW) 1 nnS);rw [bd3_hit] at HF
  go_wp2_with fail
  have hBx:=(Below.refl w3.heap.size w3).alloc (Nat.le_refl _) (.cells #[.int .i64 1,.string nnS,.int .i64 0,.slice ta 0 tc,.string ⟨#[]⟩,.slice da 0 dc,.string ⟨#[]⟩] 47);have HX3:=hJ (Bx.fresh w3 47 [.int .i64 1,.string nnS,.int .i64 0,.slice ta 0 tc,.string ⟨#[]⟩,.slice da 0 dc,.string ⟨#[]⟩]);refine ((HF.out _ hBx)).mono ?_;rintro e w4 ⟨rfl,hb4⟩;have HX4:=hJ (HX3.out.below hb4 HX3.out.lt);have HB34:=hJ (hBx.trans (hb4.mono hBx.size));clear HX3 hb4 hBx c0 c1 c2 c3 c4 c5 c6 HF;have HMt4:=hJ (HMt3.out.below HB34.out);have HM4:=hJ (HM3.out.below HB34.out HM3.out.lt);have HV4:=hJ (HV3.out.below HB34.out);have hz4:=HB34.out.size;have hx4:=HX4.out.lt;have hm3:=HM3.out.lt;clear HMt3 HM3 HV3;obtain ⟨mb,mo,rfl,hmb,_⟩:=HMt4.out.form 0 (by show 0<1;decide);obtain ⟨_,_,_,⟨⟨la,lc,rfl,hla⟩,⟨_,_,rfl,_⟩⟩,_,_,e2,e3,_,_,_⟩:=HMt4.out.bnd 0 (by show 0<1;decide);have f2:w4.cell? ⟨mb,mo+2,none⟩=some (.int .i64 3):=e2;have f3:w4.cell? ⟨mb,mo+3,none⟩=some (.slice la 0 lc):=e3;have hla:Sl kA2 _ w4 la 0 lc []:=hla;have HLa:=hJ (fun W=>hla.void (S':=fun k=>False∧(Value.slice ab 1 cb).ownBlock≠some k) (w':=W));clear e2 e3 hla;have g2:=HX4.out.fz 2;have g3:=HX4.out.fz 3;have k2:=HX4.out.cell 2 _ rfl;have k3:=HX4.out.cell 3 _ rfl
  go_upto_region 13 with fail
  have HB45:Hid (Below w3.heap.size w4 ((w4.setCell ⟨w3.heap.size,2,none⟩ (.int .i64 3)).setCell ⟨w3.heap.size,3,none⟩ (.slice la 0 lc))):=hJ (Below.setCell (Below.setCell (Below.refl w3.heap.size w4) (by simp) _) (by simp) _);have HX5:Hid (Bx ((w4.setCell ⟨w3.heap.size,2,none⟩ (.int .i64 3)).setCell ⟨w3.heap.size,3,none⟩ (.slice la 0 lc)) w3.heap.size 47 [.int .i64 1,.string nnS,.int .i64 3,.slice la 0 lc,.string ⟨#[]⟩,.slice da 0 dc,.string ⟨#[]⟩]):=hJ ((HX4.out.set 2 _).set 3 _);clear g2 g3 k2 k3 f2 f3;generalize ((w4.setCell ⟨w3.heap.size,2,none⟩ (.int .i64 3)).setCell ⟨w3.heap.size,3,none⟩ (.slice la 0 lc))=W5 at *;have HM5:=hJ (HM4.out.below HB45.out hm3);have HV5:=hJ (HV4.out.frame (w':=W5) fun k hk _=>HB45.out.block k hk.2);have HB5:=hJ (HB3.out.trans ((HB34.out.trans HB45.out).mono HB3.out.size));have HO5:=hJ (HO.out.below HB5.out);have HOb:Hid (∀ k,(Value.slice ab 1 cb).ownBlock=some k→k<w.heap.size):=hJ fun k e=>(HO.out.block e).2
  have hz5:=HB45.out.size;have hm5:=HM5.out.lt;have hx5:=HX5.out.lt;clear HX4 HM4 HV4 HMt4 HB34 HB45 HB3 HO;have k0:=HX5.out.cell 0 _ rfl;have k1:=HX5.out.cell 1 _ rfl;have k2:=HX5.out.cell 2 _ rfl;have k3:=HX5.out.cell 3 _ rfl;have k4:=HX5.out.cell 4 _ rfl;have k5:=HX5.out.cell 5 _ rfl;have k6:=HX5.out.cell 6 _ rfl;have m0:=HM5.out.cell 0 _ rfl;have hw5:=HB5.out.size
  go_region_law (first
   | (refine kEO kDU rfl (.tmp 53) (.tmp 55) rfl base (.slice ab 1 cb) [bA] rfl (HO5.out.below (by go_grown)) W5.heap.size bd3 [.int .i64 1,.string nnS,.int .i64 3,.slice la 0 lc,.string ⟨#[]⟩,.slice da 0 dc,.string ⟨#[]⟩] rfl ?ry ?rc ?rl ?rm ?rb ?_
      case ry=>first | exact ⟨_,_,rfl,⟨la,lc,rfl,HLa.out _⟩,⟨da,dc,rfl,HDa.out _⟩⟩
      case rc=>first | exact kA3 47 (by (simp only [kAI,kAH,Array.getElem?_push,Array.size_push];simp))
      case rl=>first | (simp;done)
      case rm=>first | (unfold maxLen;simp;done)
      case rb=>first | (simp;omega) | (simp;done)
      intro v5 w6 hown6 hb6 hk6;have hV6:=HV5.out.frame (w':=w6) fun k hk _=>(hk6.block k (by simp <;> omega) (fun e=>by have:=HOb.out k e;omega)).trans (Below.block (B:=W5.heap.size) (w:=W5) (by go_grown) k (by omega))
      obtain ⟨a6,m6,c6,rfl⟩:=hown6.shape;have hB6:Below base W5 w6:=Below.trans ((show Below W5.heap.size W5 _ by go_grown).mono (by omega)) hb6;have HM6:=HM5.out.below hB6 hbm;have z0:=HM6.cell 0 _ rfl;have z1:=HM6.fz 0))
  all_goals
   obtain ⟨a7,c7,e7,_⟩:=hown6.sl;rw [Value.slice.injEq] at e7;have hm7:m6=2:=e7.2.1;subst hm7;clear e7;have ho6:Own RBnd 47 (fun _=>False) w6 base (.slice a6 2 c6) [bA,bd3]:=hown6;have HV6:=hJ (hV6.frame (w':=w6.setCell ⟨bm,0,none⟩ (.slice a6 2 c6)) fun k hk _=>kAA (by show bm≠k;have:=hk.1;omega));have HR:=hJ (And.intro (HM6.set 0 (.slice a6 2 c6)) (And.intro (ho6.set (a:=⟨bm,0,none⟩) (.slice a6 2 c6) (fun _ h=>h.elim) hbm) ((Kc.of_below (g:=bm) ((HB5.out.mono hbase).trans hB6)).set 0 (.slice a6 2 c6))));clear hown6 ho6 hk6 hb6 hB6 HM6 z0 z1 hV6 HM5 HV5 HO5 HB5 k0 k1 k2 k3 k4 k5 k6 m0;obtain ⟨_,_,_,⟨⟨ta2,tc2,rfl,_⟩,⟨da2,dc2,rfl,_⟩⟩,e0,e1,e2,e3,e4,e5,e6⟩:=HV6.out.bnd 1 (by show 1<2;decide);have q0:(w6.setCell ⟨bm,0,none⟩ (.slice a6 2 c6)).cell? ⟨vb,vo+7,none⟩=some (.int .i64 3):=e0;have q1:(w6.setCell ⟨bm,0,none⟩ (.slice a6 2 c6)).cell? ⟨vb,vo+7+1,none⟩=some (.string aS):=e1;have r1:(w6.setCell ⟨bm,0,none⟩ (.slice a6 2 c6)).cell? ⟨vb,vo+8,none⟩=some (.string aS):=e1;have q2:(w6.setCell ⟨bm,0,none⟩ (.slice a6 2 c6)).cell? ⟨vb,vo+7+2,none⟩=some (.int .i64 0):=e2;have r2:(w6.setCell ⟨bm,0,none⟩ (.slice a6 2 c6)).cell? ⟨vb,vo+9,none⟩=some (.int .i64 0):=e2;have q3:(w6.setCell ⟨bm,0,none⟩ (.slice a6 2 c6)).cell? ⟨vb,vo+7+3,none⟩=some (.slice ta2 0 tc2):=e3;have r3:(w6.setCell ⟨bm,0,none⟩ (.slice a6 2 c6)).cell? ⟨vb,vo+10,none⟩=some (.slice ta2 0 tc2):=e3;have q4:(w6.setCell ⟨bm,0,none⟩ (.slice a6 2 c6)).cell? ⟨vb,vo+7+4,none⟩=some (.string ⟨#[]⟩):=e4;have r4:(w6.setCell ⟨bm,0,none⟩ (.slice a6 2 c6)).cell? ⟨vb,vo+11,none⟩=some (.string ⟨#[]⟩):=e4;have q5:(w6.setCell ⟨bm,0,none⟩ (.slice a6 2 c6)).cell? ⟨vb,vo+7+5,none⟩=some (.slice da2 0 dc2):=e5;have r5:(w6.setCell ⟨bm,0,none⟩ (.slice a6 2 c6)).cell? ⟨vb,vo+12,none⟩=some (.slice da2 0 dc2):=e5;have q6:(w6.setCell ⟨bm,0,none⟩ (.slice a6 2 c6)).cell? ⟨vb,vo+7+6,none⟩=some (.string ⟨#[]⟩):=e6;have r6:(w6.setCell ⟨bm,0,none⟩ (.slice a6 2 c6)).cell? ⟨vb,vo+13,none⟩=some (.string ⟨#[]⟩):=e6;clear e0 e1 e2 e3 e4 e5 e6;generalize (w6.setCell ⟨bm,0,none⟩ (.slice a6 2 c6))=W6 at *
   go_wp2_with fail
   rw [rounds_succ]
   go_wp2_with fail
   rw [rounds_succ]
   go_wp2_with fail
   go_ret;exact ⟨rfl,⟨a6,c6,HR.out.1.alloc _,HR.out.2.1.alloc _⟩,HR.out.2.2.later ((Below.refl _ _).alloc (Nat.le_trans hbase HR.out.2.2.size) _)⟩
def cmpZ (a b:Int):Int:=if a<b then -1 else if b<a then 1 else 0
def orZ (a b:Int):Int:=if a=0 then b else a
def cmpK (x y:Bnd):Int:=orZ (cmpZ x.kind y.kind) (cmpS x.v y.v)
theorem cmpK_le (x y:Bnd):cmpK x y≤0 ↔ x.kind<y.kind∨(x.kind=y.kind∧cmpS x.v y.v≤0):=by
 unfold cmpK orZ cmpZ;by_cases h:x.kind<y.kind
 · simp [h]
 · by_cases h2:y.kind<x.kind
   · simp [h,h2];omega
   · have:x.kind=y.kind:=by omega
     simp [this]
theorem preB:PreC cmpK:=⟨fun x y=>by
 unfold cmpK orZ cmpZ;rw [cmpS_anti x.v y.v];by_cases h:x.kind<y.kind
 · have h3:¬ y.kind<x.kind:=by omega
   simp [h,h3]
 · by_cases h2:y.kind<x.kind
   · simp [h,h2]
   · simp [h,h2],
 fun a b c h1 h2=>by
  rw [cmpK_le] at *;rcases h1 with h1 | ⟨h1,h3⟩ <;> rcases h2 with h2 | ⟨h2,h4⟩
  · left;omega
  · left;omega
  · left;omega
  · exact .inr ⟨by omega,preV.trans a b c h3 h4⟩⟩
theorem isNaN_int (a:Int) (w:World):Calls Tryz.prog 163 #[.int .i64 a] w fun e w'=>e= .returned (.bool false)∧w=w':=by
 go_enter func163,ntmps163
 go_wp2_with fail
 go_ret;exact ⟨by simp,rfl⟩
theorem compare_int (a b:Int) (w:World):Calls Tryz.prog 103 #[.int .i64 a,.int .i64 b] w fun e w'=>e= .returned (.int .i64 (cmpZ a b))∧w=w':=by
 have H:=hJ (fun x (W:World)=>isNaN_int x W);have HR1:Hid (a<b→cmpZ a b= -1):=hJ (fun h=>by unfold cmpZ;rw [if_pos h]);have HR2:Hid (¬ a<b→b<a→cmpZ a b=1):=hJ (fun h h2=>by unfold cmpZ;rw [if_neg h,if_pos h2]);have HR3:Hid (¬ a<b→¬ b<a→cmpZ a b=0):=hJ (fun h h2=>by unfold cmpZ;rw [if_neg h,if_neg h2]);by_cases h1:a<b
 · go_enter func103,ntmps103
   go_wp2_with fail
   refine (H.out _ _).mono ?_;rintro e _ ⟨rfl,rfl⟩
   go_wp2_with fail
   refine (H.out _ _).mono ?_;rintro e _ ⟨rfl,rfl⟩
   go_wp2_with fail
   go_ret;exact ⟨by rw [HR1.out h1];rfl,rfl⟩
 · by_cases h2:b<a
   · go_enter func103,ntmps103
     go_wp2_with fail
     refine (H.out _ _).mono ?_;rintro e _ ⟨rfl,rfl⟩
     go_wp2_with fail
     refine (H.out _ _).mono ?_;rintro e _ ⟨rfl,rfl⟩
     go_wp2_with fail
     go_ret;exact ⟨by rw [HR2.out h1 h2];rfl,rfl⟩
   · go_enter func103,ntmps103
     go_wp2_with fail
     refine (H.out _ _).mono ?_;rintro e _ ⟨rfl,rfl⟩
     go_wp2_with fail
     refine (H.out _ _).mono ?_;rintro e _ ⟨rfl,rfl⟩
     go_wp2_with fail
     go_ret;exact ⟨by rw [HR3.out h1 h2];rfl,rfl⟩
theorem or_int (a b:Int) (g:Nat) (w:World) (ha:w.cell? ⟨g,0,none⟩=some (.int .i64 a)) (hb:w.cell? ⟨g,1,none⟩=some (.int .i64 b)):Calls Tryz.prog 102 #[.slice (some ⟨g,0,none⟩) 2 2] w fun e w'=>e= .returned (.int .i64 (orZ a b))∧w=w':=by
 have HR1:Hid (¬ a=0→orZ a b=a):=hJ (fun h=>by unfold orZ;rw [if_neg h]);have HR2:Hid (a=0→orZ a b=b):=hJ (fun h=>by unfold orZ;rw [if_pos h]);by_cases h1:a=0
 · have HS:=hJ h1
   subst h1;by_cases h2:b=0
   · subst h2
     go_enter func102,ntmps102
     go_wp2_with fail
     refine wp_loop_rounds 3 ?_;rw [rounds_succ]
     go_wp2_with fail
     rw [rounds_succ]
     go_wp2_with fail
     rw [rounds_succ]
     go_wp2_with fail
     go_ret;exact ⟨by rw [HR2.out trivial];rfl,rfl⟩
   · go_enter func102,ntmps102
     go_wp2_with fail
     refine wp_loop_rounds 3 ?_;rw [rounds_succ]
     go_wp2_with fail
     rw [rounds_succ]
     go_wp2_with fail
     go_ret;exact ⟨by rw [HR2.out trivial];rfl,rfl⟩
 · go_enter func102,ntmps102
   go_wp2_with fail
   refine wp_loop_rounds 3 ?_;rw [rounds_succ]
   go_wp2_with fail
   go_ret;exact ⟨by rw [HR1.out h1];rfl,rfl⟩
theorem inst_cmp {S T:Blk} {x y:Bnd} {cs ds:List Value} {w:World} (h:RBnd.rd S w cs x) (h2:RBnd.rd T w ds y) :
 Calls Tryz.prog 101 #[.agg cs.toArray,.agg ds.toArray] w fun e w'=>e= .returned (.int .i64 (cmpK x y))∧Below w.heap.size w w':=by
 obtain ⟨_,_,rfl,⟨a1,c1,rfl,_⟩,⟨a2,c2,rfl,_⟩⟩:=h;obtain ⟨_,_,rfl,⟨a3,c3,rfl,_⟩,⟨a4,c4,rfl,_⟩⟩:=h2;have HC:Hid (∀ W,Calls Tryz.prog 103 #[.int .i64 x.kind,.int .i64 y.kind] W fun e w'=>e= .returned (.int .i64 (cmpZ x.kind y.kind))∧W=w'):=hJ (fun W=>compare_int _ _ W);have HS:Hid (∀ W,Calls Tryz.prog 104 #[.string x.v,.string y.v] W fun e w'=>e= .returned (.int .i64 (cmpS x.v y.v))∧W=w'):=hJ (fun W=>kHK _ _ W);have HK:Hid (cmpK x y=orZ (cmpZ x.kind y.kind) (cmpS x.v y.v)):=hJ rfl;generalize cmpK x y=r at *;obtain ⟨B0,ya,yb,hW0⟩:=box2 w 47 [.int .i64 x.kind,.string x.v,.int .i64 x.dim.const,.slice a1 x.dim.terms.length c1,.string x.row.row,.slice a2 x.row.dims.length c2,.string x.elem] 47 [.int .i64 y.kind,.string y.v,.int .i64 y.dim.const,.slice a3 y.dim.terms.length c3,.string y.row.row,.slice a4 y.row.dims.length c4,.string y.elem];have xa0:=box0 ya 0 _ rfl;have xa1:=box0 ya 1 _ rfl;have xa2:=box0 ya 2 _ rfl;have xa3:=box0 ya 3 _ rfl;have xa4:=box0 ya 4 _ rfl;have xa5:=box0 ya 5 _ rfl;have xa6:=box0 ya 6 _ rfl;have xb0:=box0 yb 0 _ rfl;have xb1:=box0 yb 1 _ rfl;have xb2:=box0 yb 2 _ rfl;have xb3:=box0 yb 3 _ rfl;have xb4:=box0 yb 4 _ rfl;have xb5:=box0 yb 5 _ rfl;have xb6:=box0 yb 6 _ rfl;clear ya yb;generalize cmpZ x.kind y.kind=p at *;generalize cmpS x.v y.v=q at *;go_enter func101,ntmps101
 go_upto_region 1 with fail
 generalize ((w.alloc (.cells #[.int .i64 x.kind,.string x.v,.int .i64 x.dim.const,.slice a1 x.dim.terms.length c1,.string x.row.row,.slice a2 x.row.dims.length c2,.string x.elem] 47)).alloc (.cells #[.int .i64 y.kind,.string y.v,.int .i64 y.dim.const,.slice a3 y.dim.terms.length c3,.string y.row.row,.slice a4 y.row.dims.length c4,.string y.elem] 47))=W at *
 have HO:Hid (Calls Tryz.prog 102 #[.slice (some ⟨w.heap.size+2,0,none⟩) 2 2] (W.alloc (.cells #[.int .i64 p,.int .i64 q] 3)).drew fun e w'=>e= .returned (.int .i64 (orZ p q))∧(W.alloc (.cells #[.int .i64 p,.int .i64 q] 3)).drew=w'):=by
  rw [← hW0];exact hJ (or_int p q _ _ ((Bx.fresh W 3 [.int .i64 p,.int .i64 q]).drew.cell 0 _ rfl) ((Bx.fresh W 3 [.int .i64 p,.int .i64 q]).drew.cell 1 _ rfl))
 go_region_held3 (fun W=>W.cell? ⟨w.heap.size,0,none⟩=some (.int .i64 x.kind)∧W.cell? ⟨w.heap.size,1,none⟩=some (.string x.v)∧W.cell? ⟨w.heap.size+1,0,none⟩=some (.int .i64 y.kind)∧W.cell? ⟨w.heap.size+1,1,none⟩=some (.string y.v)) (first | (with_reducible exact ⟨xa0,xa1,xb0,xb1⟩) | go_keep) (first
  | (go_at_call 103
     refine (HC.out _).mono ?_;rintro e _ ⟨rfl,rfl⟩)
  | (go_at_call 104
     refine (HS.out _).mono ?_;rintro e _ ⟨rfl,rfl⟩)
  | (go_at_call 102
     refine HO.out.mono ?_;rintro e _ ⟨rfl,rfl⟩))
 all_goals go_wp2_with fail
 all_goals go_ret
 all_goals exact ⟨by rw [HK.out];rfl,B0.out.trans (((Below.refl W.heap.size W).alloc (Nat.le_refl _) _).drew.mono (by rw [hW0];omega))⟩
theorem nil_eqlL (w:World):(binOp .eql 22 (.slice none 0 0) (.slice none 0 0)).run Tryz.prog w= .ok (.bool true) w:=by kernel_rfl
theorem some_eqlL (w:World) (ad:Addr) (n c:Nat):(binOp .eql 22 (.slice (some ad) n c) (.slice none 0 0)).run Tryz.prog w= .ok (.bool false) w:=by kernel_rfl
theorem clone_lin0 {S:Blk} (a:Option Addr) (c:Nat) (w:World) (h:Sl RLin S w a 0 c []) :
 Calls Tryz.prog 96 #[.slice a 0 c] w fun e w'=>(∃ v,e= .returned v∧Own RLin 45 (fun _=>False) w' w.heap.size v [])∧Below w.heap.size w w':=by
 cases a with
 | none =>
   have h0:=h.nil rfl;subst h0;have hq:=nil_eqlL;go_enter func96,ntmps96
   go_wp2_with fail
   go_ret;exact ⟨⟨_,rfl,Own.nil _ _ _ _ _⟩,Below.refl _ _⟩
 | some ad =>
   have HS:=hJ (fun W=>h.void (S':=fun k=>False∧(Value.slice (some ⟨w.heap.size,0,none⟩) 0 0).ownBlock≠some k) (w':=W));clear h;have hq:=fun w=>some_eqlL w ad 0 c
   go_enter func96,ntmps96
   go_wp2_with (at_builtin;refine app_sl kBP rfl _ _ rfl w.heap.size _ [] [] rfl (Own.at0 RLin _ (fun _=>False) (by (simp only [kAI,kAH,Array.getElem?_push,Array.size_push];simp)) (Nat.le_refl _)) (some ad) 0 c rfl (HS.out _) (by simp) (by unfold maxLen;simp) (by simp) ?_;intro v9 w9 hown9 hb9 hk9)
   go_ret;exact ⟨⟨v9,rfl,hown9⟩,((Below.refl _ _).alloc (Nat.le_refl _) _).trans hb9⟩
theorem two_sorted {m:List Bnd} (hp:m.Perm [bA,bd3]) (hl:Le cmpK m):m=[bd3,bA]:=by
 have hk:¬ cmpK bA bd3≤0:=by
  rw [cmpK_le];intro h;rcases h with h | ⟨h,_⟩ <;> exact absurd h (by decide)
 have h2:=hp.length_eq
 match m,h2 with
 | [x,y],_ =>
   have hle:cmpK x y≤0:=by
    unfold Le at hl;rw [List.pairwise_cons] at hl;exact hl.1 y (List.mem_cons_self ..)
   have hx:=hp.mem_iff.1 (List.mem_cons_self (a:=x) (l:=[y]));have hy:=hp.mem_iff.1 (List.mem_cons_of_mem x (List.mem_cons_self (a:=y) (l:=[])));have hA:=hp.mem_iff.2 (List.mem_cons_self (a:=bA) (l:=[bd3]));have hB:=hp.mem_iff.2 (List.mem_cons_of_mem bA (List.mem_cons_self (a:=bd3) (l:=[])));have hne:bA≠bd3:=fun e=>hk (by rw [← e];exact absurd (congrArg Bnd.kind e) (by decide))
   simp only [List.mem_cons,List.not_mem_nil,or_false] at hx hy hA hB;rcases hx with rfl | rfl <;> rcases hy with rfl | rfl
   · rcases hB with e | e <;> exact absurd e.symm hne
   · exact absurd hle hk
   · rfl
   · rcases hA with e | e <;> exact absurd e hne
theorem cat_rd {S:Blk} {ps:List Typ} {r:Typ} {ap at_:Option Addr} {n cp L ct:Nat} (w:World) (hp:Sl RTyp S w ap n cp ps) (ht:Sl RLin S w at_ L ct r.shape.dims) (hn:n≤12) (k0 k1:Nat) (h0:k0=w.heap.size) (h1:k1=w.heap.size+1) :
 Calls Tryz.prog 81 #[.slice (some ⟨k1,0,none⟩) 2 2] ((w.alloc (.cells #[.string r.elem,.string r.shape.row,.slice at_ L ct] 26)).alloc (.cells #[.slice ap n cp,.slice (some ⟨k0,0,none⟩) 1 1] 27)) fun e w'=>(∃ a c,e= .returned (.slice a (n+1) c)∧Sl RTyp (fun k=>S k∨w.heap.size≤k) w' a (n+1) c (ps++[r]))∧Below w.heap.size w w':=by
 subst h0 h1;have hl:=hp.len;have hl2:=ht.len;have HA:Below w.heap.size w ((w.alloc (.cells #[.string r.elem,.string r.shape.row,.slice at_ L ct] 26)).alloc (.cells #[.slice ap n cp,.slice (some ⟨w.heap.size,0,none⟩) 1 1] 27)):=((Below.refl _ _).alloc (Nat.le_refl _) _).alloc (by simp) _;subst hl2
 refine (concat_Typ (S1:=S) (S2:=fun k=>S k∨w.heap.size≤k) ps [r] ap n cp (some ⟨w.heap.size,0,none⟩) 1 1 (w.heap.size+1) _
  (by have:=Bx.fresh (w.alloc (.cells #[.string r.elem,.string r.shape.row,.slice at_ r.shape.dims.length ct] 26)) 27 [.slice ap n cp,.slice (some ⟨w.heap.size,0,none⟩) 1 1];simpa using this)
  (hp.below HA)
  (Sl.single (cs:=[.string r.elem,.string r.shape.row,.slice at_ r.shape.dims.length ct]) ((Bx.fresh w 26 [.string r.elem,.string r.shape.row,.slice at_ r.shape.dims.length ct]).alloc _) ⟨_,rfl,at_,ct,rfl,(ht.mono (fun k hk hlt=>.inl hk)).below HA⟩ (.inr (Nat.le_refl _))) (by omega) (by omega)).mono ?_
 rintro e w' ⟨⟨v,rfl,ho⟩,hb⟩;have hz:=HA.size;obtain ⟨a,c,rfl,hs⟩:=ho.sl;have hlen:(ps++[r]).length=n+1:=by rw [List.length_append,hl];rfl
 rw [hlen] at hs ⊢
 exact ⟨⟨a,c,rfl,hs.mono fun k hk _=>by
  rcases hk with (hk | hk | hk) | hk
  · exact .inl hk
  · exact .inl hk
  · exact .inr hk
  · exact .inr (by have:=HA.size;omega)⟩,HA.trans (hb.mono hz)⟩
def gTy:Typ:=⟨aS,⟨⟨#[]⟩,[pL]⟩⟩
def gUy:Typ:=⟨aS,⟨⟨#[]⟩,[]⟩⟩
def sTy:Typ:=⟨iS,⟨⟨#[]⟩,[tL]⟩⟩
def sUy:Typ:=⟨iS,⟨⟨#[]⟩,[]⟩⟩
theorem sch3_open {S:Blk} {w:World} {cs:List Value} (h:RSch.rd S w cs as3):∃ p c t d q e,cs=[.slice p 1 c,.string aS,.string ⟨#[]⟩,.slice t 0 d,.slice q 0 e]∧Sl RTyp S w p 1 c [gTy]∧Sl RLin S w t 0 d []∧Sl RLin S w q 0 e []:=by
 obtain ⟨_,_,_,rfl,⟨p1,c1,rfl,hp1⟩,⟨t1,d1,rfl,ht1⟩,⟨q1,e1,rfl,hq1⟩⟩:=h;exact ⟨p1,c1,t1,d1,q1,e1,rfl,hp1,ht1,hq1⟩
theorem sch4_open {S:Blk} {w:World} {cs:List Value} (h:RSch.rd S w cs as4):∃ p c t d q e,cs=[.slice p 1 c,.string iS,.string ⟨#[]⟩,.slice t 0 d,.slice q 0 e]∧Sl RTyp S w p 1 c [sTy]∧Sl RLin S w t 0 d []∧Sl RLin S w q 0 e []:=by
 obtain ⟨_,_,_,rfl,⟨p1,c1,rfl,hp1⟩,⟨t1,d1,rfl,ht1⟩,⟨q1,e1,rfl,hq1⟩⟩:=h;exact ⟨p1,c1,t1,d1,q1,e1,rfl,hp1,ht1,hq1⟩
theorem app_nothing {P:Program} {T E:TypeId} {size bytes:Nat} (he:ElemOf P T E size bytes) {ops:Array Oper} {rest:List Oper} {o:Oper} {a:Act} {Q:Exit→Act→World→Prop} {w:World} (hgd:o.guard=none) (s x:Operand)
 (ho:o.op= .call { callee:=.builtin .append,args:=#[s,x],argTypes:=#[T,T] }) (b:Option Addr) (n c:Nat) (hle:n≤c) (hs:a.eval s= .slice b n c) (ao:Option Addr) (c':Nat)
 (hx:a.eval x= .slice ao 0 c') (h:wpList P ops Q rest (a.put o.dst (.slice b n c)) w):wpList P ops Q (o :: rest) a w:=by
 obtain ⟨i0,z0,hi,hz,hsz,hb,hzs⟩:=he.parts
 have h1:(Builtin.append_ #[T,T] o.type #[.slice b n c,.slice ao 0 c']).run P w= .ok (.slice b n c) w:=by
  refine run_append_nothing w T T o.type E i0 he.slice hi b n c hle _ ?_;cases ao with
  | none=>exact Src.ofNil _ he.slice c'
  | some ad=>exact Src.ofSlice _ he.slice ad 0 c' [] (by simp) (fun j u e=>by simp at e) (fun u hu=>by cases hu)
 refine wpList_plain hgd fun K hK=>?_
 unfold Oper.wp;simp [execOp,ho,resolve,invoke,builtin,hs,hx,h1,Result.andThen];exact hK _ _ h
theorem kC4 {w w':World} {g:Nat} {a:Addr} {v:Value} (h:w.cell? a=some v) (hk:Kb g w w') (hne:a.block≠g):w'.cell? a=some v:=kCA h (fun hlt=>hk.block _ hlt hne)
theorem inst_ex {S T:Blk} {w:World} {cs ds:List Value} (h:RSch.rd S w cs as3) (h2:RSch.rd T w ds as4) (E:Env w) :
 Calls Tryz.prog 39 #[.agg cs.toArray,.agg ds.toArray] w fun e w'=>(∃ a c,e= .returned (.tuple #[.slice a 2 c,.int .i64 0])∧Sl RBnd (fun q=>w.heap.size≤q) w' a 2 c [bd3,bA])∧Below w.heap.size w w':=by
 have HV1:=hJ (fun (W:World) (hW:Below w.heap.size w W)=>kBA (RSch.below h hW) (sch_sz av3) (E.below hW));have HV2:=hJ (fun (W:World) (hW:Below w.heap.size w W)=>kBA (RSch.below h2 hW) (sch_sz av4) (E.below hW));rw [av3] at HV1;rw [av4] at HV2;have HE:=hJ (fun (W:World) (hW:Below w.heap.size w W)=>E.below hW);have HR1:=hJ h;obtain ⟨p1,c1,t1,d1,q1,e1,rfl,hp1,ht1,_⟩:=sch3_open h;obtain ⟨p2,c2,t2,d2,q2,e2,rfl,hp2,ht2,hq2⟩:=sch4_open h2;clear h h2;have HP1:=hJ (hp1.mono (S':=fun q=>q<w.heap.size) fun q _ hq=>hq);have HP2:=hJ (hp2.mono (S':=fun q=>q<w.heap.size) fun q _ hq=>hq);have HT1:=hJ (ht1.mono (S':=fun q=>q<w.heap.size) fun q _ hq=>hq);have HT2:=hJ (ht2.mono (S':=fun q=>q<w.heap.size) fun q _ hq=>hq);have HQ2:=hJ (fun W=>clone_lin0 q2 e2 W (hq2.void (S':=All) (w':=W)));clear hp1 hp2 ht1 ht2 hq2 E;obtain ⟨B0,ya,yb,hW0⟩:=box2 w 29 [.slice p1 1 c1,.string aS,.string ⟨#[]⟩,.slice t1 0 d1,.slice q1 0 e1] 29 [.slice p2 1 c2,.string iS,.string ⟨#[]⟩,.slice t2 0 d2,.slice q2 0 e2];have xa0:=box0 ya 0 _ rfl;have xa1:=box0 ya 1 _ rfl;have xa2:=box0 ya 2 _ rfl;have xa3:=box0 ya 3 _ rfl;have xa4:=box0 ya 4 _ rfl;have xb0:=box0 yb 0 _ rfl;have xb1:=box0 yb 1 _ rfl;have xb2:=box0 yb 2 _ rfl;have xb3:=box0 yb 3 _ rfl;have xb4:=box0 yb 4 _ rfl;have bka:Bx _ _ _ _:=ya;have bkb:Bx _ _ _ _:=yb;clear ya yb;have HA0:=hJ bka;have HB0:=hJ bkb;clear bka bkb;go_enter func39,ntmps39
 go_wp2_with fail
 generalize ((w.alloc (.cells #[.slice p1 1 c1,.string aS,.string ⟨#[]⟩,.slice t1 0 d1,.slice q1 0 e1] 29)).alloc (.cells #[.slice p2 1 c2,.string iS,.string ⟨#[]⟩,.slice t2 0 d2,.slice q2 0 e2] 29))=W1 at *;refine ((HV1.out _ B0.out)).mono ?_;rintro e w2 ⟨rfl,hb2⟩;have HW2:=hJ (B0.out.trans (hb2.mono B0.out.size));have HA2:=hJ (HA0.out.below hb2 HA0.out.lt);have HB2:=hJ (HB0.out.below hb2 HB0.out.lt);clear hb2 HA0 HB0 xa0 xa1 xa2 xa3 xa4 xb0 xb1 xb2 xb3 xb4 HV1;have xb0:=HB2.out.cell 0 _ rfl;have xb1:=HB2.out.cell 1 _ rfl;have xb2:=HB2.out.cell 2 _ rfl;have xb3:=HB2.out.cell 3 _ rfl;have xb4:=HB2.out.cell 4 _ rfl
 go_wp2_with fail
 refine ((HV2.out _ HW2.out)).mono ?_;rintro e w3 ⟨rfl,hb3⟩;have HW3:=hJ (HW2.out.trans (hb3.mono HW2.out.size));have HA3:=hJ (HA2.out.below hb3 HA2.out.lt);have HB3:=hJ (HB2.out.below hb3 HB2.out.lt);clear hb3 HA2 HB2 xb0 xb1 xb2 xb3 xb4 HV2 HW2;have xa0:=HA3.out.cell 0 _ rfl;have xb0:=HB3.out.cell 0 _ rfl;have hal:=HA3.out.lt;have hbl:=HB3.out.lt;have xb4:=HB3.out.cell 4 _ rfl
 go_wp2_with fail
 have HM3:=hJ (Bx.fresh w3 113 [.slice none 0 0,.slice none 0 0,.slice none 0 0]);have HX3:Hid (Below w3.heap.size w3 (w3.alloc (.cells #[.slice none 0 0,.slice none 0 0,.slice none 0 0] 113))):=hJ ((Below.refl _ _).alloc (Nat.le_refl _) _);have hz3:(w3.alloc (.cells #[.slice none 0 0,.slice none 0 0,.slice none 0 0] 113)).heap.size=w3.heap.size+1:=by simp
 refine (HQ2.out _).mono ?_;rintro e w4 ⟨⟨v7,rfl,hv7⟩,hb4⟩;obtain ⟨a7,c7,e7,_⟩:=hv7.sl;have e7:v7= .slice a7 0 c7:=e7;subst e7;have HOb:Hid (∀ k,(Value.slice a7 0 c7).ownBlock=some k→w3.heap.size+1≤k∧k<w4.heap.size):=hJ (fun k e=>by have:=hv7.block e;rw [hz3] at this;exact this);have HX4:=hJ (HX3.out.trans (hb4.mono HX3.out.size));have HM4:=hJ (HM3.out.below hb4 HM3.out.lt);have HO7:=hJ (hv7.lower (base':=w3.heap.size+1) (by rw [hz3];exact Nat.le_refl _));have HW4:=hJ (HW3.out.trans (HX4.out.mono HW3.out.size));have HA4:=hJ (HA3.out.below HX4.out hal);have HB4:=hJ (HB3.out.below HX4.out hbl);have h4:w3.heap.size+1≤w4.heap.size:=by rw [← hz3];exact hb4.size
 clear hb4 HX3 HX4 HM3 hz3 hv7 xa0 xb0 xb4 HA3 HB3 HQ2;have xb0:=HB4.out.cell 0 _ rfl;have xb1:=HB4.out.cell 1 _ rfl;have xb2:=HB4.out.cell 2 _ rfl;have xb3:=HB4.out.cell 3 _ rfl;have HC2:=hJ (cat_rd (S:=fun q=>q<w.heap.size) (ps:=[sTy]) (r:=sUy) w4 (HP2.out.below HW4.out) (HT2.out.below HW4.out) (by decide) w4.heap.size (w4.heap.size+1) rfl rfl)
 change Hid (Calls _ _ _ ((w4.alloc (.cells #[.string iS,.string ⟨#[]⟩,.slice t2 0 d2] 26)).alloc (.cells #[.slice p2 1 c2,.slice (some ⟨w4.heap.size,0,none⟩) 1 1] 27)) _) at HC2
 go_wp2_with fail
 refine HC2.out.mono ?_;rintro e w5 ⟨⟨a8,c8,rfl,hs8⟩,hb5⟩;have hs8:Sl RTyp _ w5 a8 2 c8 [sTy,sUy]:=hs8;have HS8:=hJ (hs8.mono (S':=fun q=>q<w3.heap.size∨w4.heap.size≤q) (fun q hq _=>hq.elim (fun h=>.inl (by have:=HW3.out.size;omega)) (fun h=>.inr (by omega))));have HM5:=hJ (HM4.out.below hb5 HM4.out.lt);have HO75:=hJ (HO7.out.below hb5);have HW5:=hJ (HW4.out.trans (hb5.mono HW4.out.size));have HA5:=hJ (HA4.out.below hb5 HA4.out.lt);have h5:=hb5.size;clear hb5 hs8 HM4 HO7 HW4 HA4 HB4 HC2 xb0 xb1 xb2 xb3;have xa0:=HA5.out.cell 0 _ rfl;have xa1:=HA5.out.cell 1 _ rfl;have xa2:=HA5.out.cell 2 _ rfl;have xa3:=HA5.out.cell 3 _ rfl;have HC1:=hJ (cat_rd (S:=fun q=>q<w.heap.size) (ps:=[gTy]) (r:=gUy) w5 (HP1.out.below HW5.out) (HT1.out.below HW5.out) (by decide) w5.heap.size (w5.heap.size+1) rfl rfl)
 change Hid (Calls _ _ _ ((w5.alloc (.cells #[.string aS,.string ⟨#[]⟩,.slice t1 0 d1] 26)).alloc (.cells #[.slice p1 1 c1,.slice (some ⟨w5.heap.size,0,none⟩) 1 1] 27)) _) at HC1
 go_wp2_with fail
 refine HC1.out.mono ?_;rintro e w6 ⟨⟨a9,c9,rfl,hs9⟩,hb6⟩;have hs9:Sl RTyp _ w6 a9 2 c9 [gTy,gUy]:=hs9;have HS9:=hJ (hs9.mono (S':=fun q=>q<w3.heap.size∨w4.heap.size≤q) (fun q hq _=>hq.elim (fun h=>.inl (by have:=HW3.out.size;omega)) (fun h=>.inr (by omega))));have HS86:=hJ (HS8.out.below hb6);have HM6:=hJ (HM5.out.below hb6 HM5.out.lt);have HO76:=hJ (HO75.out.below hb6);have HW6:=hJ (HW5.out.trans (hb6.mono HW5.out.size));have HA6:=hJ (HA5.out.below hb6 HA5.out.lt);have h6:=hb6.size;clear hb6 hs9 HM5 HO75 HW5 HA5 HC1 HS8 xa0 xa1 xa2 xa3
 go_wp2_with fail
 refine wp_loop_rounds 3 ?_;rw [rounds_succ];obtain ⟨b9,o9,rfl,hb9,hi9⟩:=HS9.out.form 0 (by decide);obtain ⟨_,_,⟨ga,gc,rfl,hga⟩,g0,g1,g2⟩:=HS9.out.typ 0 (by decide);have HGa:Hid (Sl RLin (fun q=>q<w3.heap.size∨w4.heap.size≤q) w6 ga 1 gc [pL]):=hJ hga;have x0:w6.cell? ⟨b9,o9,none⟩=some (.string aS):=g0;have x1:w6.cell? ⟨b9,o9+1,none⟩=some (.string ⟨#[]⟩):=g1;have x2:w6.cell? ⟨b9,o9+2,none⟩=some (.slice ga 1 gc):=g2;obtain ⟨b8,o8,rfl,hb8,hi8⟩:=HS86.out.form 0 (by decide);obtain ⟨_,_,⟨sa,sc,rfl,hsa⟩,s0,s1,s2⟩:=HS86.out.typ 0 (by decide);have HSa:Hid (Sl RLin (fun q=>q<w3.heap.size∨w4.heap.size≤q) w6 sa 1 sc [tL]):=hJ hsa;have y0:w6.cell? ⟨b8,o8,none⟩=some (.string iS):=s0;have y1:w6.cell? ⟨b8,o8+1,none⟩=some (.string ⟨#[]⟩):=s1;have y2:w6.cell? ⟨b8,o8+2,none⟩=some (.slice sa 1 sc):=s2;clear hga hsa g0 g1 g2 s0 s1 s2
 go_upto_region 11 with fail
 obtain ⟨HB7,hk7,hz7⟩:=box1 w6 26 [.string aS,.string ⟨#[]⟩,.slice ga 1 gc];have k0:=box0 hk7 0 _ rfl;have k1:=box0 hk7 1 _ rfl;have k2:=box0 hk7 2 _ rfl;clear hk7 x0 x1 x2;generalize w6.alloc (.cells [.string aS,.string ⟨#[]⟩,.slice ga 1 gc].toArray 26)=W7 at *;have y0:=kAF y0 _ HB7.out;have y1:=kAF y1 _ HB7.out;have y2:=kAF y2 _ HB7.out;have HP:Hid (∀ W,Below w6.heap.size w6 W→_):=hJ (fun W hW=>mat_pair1 (HM6.out.below hW HM6.out.lt) (HGa.out.below hW) (HSa.out.below hW) (fun q hq=>by omega) (fun q hq=>by omega))
 go_cut [11] (fun v W=>v= .int .i64 0∧∃ ab cb ap cp at_ ct,Hid (Bx W w3.heap.size 113 [.slice ab 1 cb,.slice ap 1 cp,.slice at_ 1 ct])∧Hid (Own RBnd 47 (fun _=>False) W W7.heap.size (.slice ab 1 cb) [bA])∧Hid (Sl RLin (fun q=>q<w3.heap.size∨w4.heap.size≤q) W ap 1 cp [pL])∧Hid (Sl RLin (fun q=>q<w3.heap.size∨w4.heap.size≤q) W at_ 1 ct [tL])∧Hid (Kb w3.heap.size W7 W))
 case first =>
  go_region_held3 (fun W=>W.cell? ⟨w6.heap.size,0,none⟩=some (.string aS)∧W.cell? ⟨w6.heap.size,1,none⟩=some (.string ⟨#[]⟩)∧W.cell? ⟨w6.heap.size,2,none⟩=some (.slice ga 1 gc)∧W.cell? ⟨b8,o8,none⟩=some (.string iS)∧W.cell? ⟨b8,o8+1,none⟩=some (.string ⟨#[]⟩)∧W.cell? ⟨b8,o8+2,none⟩=some (.slice sa 1 sc)) (first | (with_reducible exact ⟨z0,z1,z2,z3,z4,z5⟩) | (with_reducible exact ⟨k0,k1,k2,y0,y1,y2⟩) | go_keep) (first
   | (go_at_call 97
      refine (HP.out W7.drew HB7.out.drew).mono ?_;rintro e w8 ⟨rfl,⟨ab,cb,ap,cp,at_,ct,hM8,hO8,hP8,hT8⟩,hK8⟩;have z0:=kC4 (w:=W7.drew) k0 hK8 (by show w6.heap.size≠w3.heap.size;omega);have z1:=kC4 (w:=W7.drew) k1 hK8 (by show w6.heap.size≠w3.heap.size;omega);have z2:=kC4 (w:=W7.drew) k2 hK8 (by show w6.heap.size≠w3.heap.size;omega);have z3:=kC4 (w:=W7.drew) y0 hK8 (fun e=>by have e:b8=w3.heap.size:=e;rcases hi8 with h | h <;> omega);have z4:=kC4 (w:=W7.drew) y1 hK8 (fun e=>by have e:b8=w3.heap.size:=e;rcases hi8 with h | h <;> omega);have z5:=kC4 (w:=W7.drew) y2 hK8 (fun e=>by have e:b8=w3.heap.size:=e;rcases hi8 with h | h <;> omega)))
  all_goals
   have hz8:W7.drew.heap.size=W7.heap.size:=rfl;have HPa:=hJ (hP8.mono (S':=fun q=>q<w3.heap.size∨w4.heap.size≤q) fun q hq _=>hq.1.elim id (fun h=>.inr (by omega)));have HTa:=hJ (hT8.mono (S':=fun q=>q<w3.heap.size∨w4.heap.size≤q) fun q hq _=>hq.1.elim id (fun h=>.inr (by omega)));have HRa:=hJ (And.intro hM8 (And.intro hO8 hK8));clear hP8 hT8 hM8 hO8 hK8 hz8
   go_wp2_with fail
   go_meet
   exact ⟨rfl,ab,cb,ap,cp,at_,ct,hJ HRa.out.1,hJ HRa.out.2.1,HPa,HTa,hJ ⟨HRa.out.2.2.os,HRa.out.2.2.tape,HRa.out.2.2.output,HRa.out.2.2.size,HRa.out.2.2.block⟩⟩
 case rest =>
  obtain ⟨rfl,ab,cb,ap,cp,at_,ct,HMc,HOc,HPc,HTc,HKc⟩:=hcut;have hi8':b8≠w3.heap.size:=fun e=>by rcases hi8 with h | h <;> omega
  have y2c:=kC4 y2 HKc.out hi8';have hzc:=HKc.out.size;have HOv:=hJ (((HO76.out.below HB7.out).kb HKc.out (fun _ h=>h.elim) (Nat.lt_succ_self _)).mono (S':=fun q=>q<w3.heap.size∨w4.heap.size≤q) (fun _ h _=>h.elim));have HSv:=hJ (((HSa.out.below HB7.out).kb HKc.out (fun q hq e=>by rcases hq with h | h <;> omega)).mono (S':=fun k=>(k<w3.heap.size∨w4.heap.size≤k)∧(Value.slice a7 0 c7).ownBlock≠some k) (fun k hk _=>⟨hk,fun e=>by have:=HOb.out k e;rcases hk with h | h <;> omega⟩));clear y0 y1 y2 k0 k1 k2 HP
  go_wp2_with (at_builtin;refine app_sl kBP rfl _ _ rfl (w3.heap.size+1) (.slice a7 0 c7) [] [tL] rfl HOv.out sa 1 sc rfl HSv.out (by simp;done) (by unfold maxLen;simp;done) (by omega) ?_;intro v9 w9 hown9 hb9 hk9)
  obtain ⟨a10,c10,e10,hs10⟩:=hown9.sl;have e10:v9= .slice a10 1 c10:=e10;subst e10;have hc10:1≤c10:=hs10.cap;clear hs10;have HKp:=hJ (fun k (hlt:k<wc.heap.size) (h:k<w3.heap.size+1∨w4.heap.size≤k)=>hk9.block k hlt (fun e=>by have:=HOb.out k e;omega));have hzz:=hb9.size;have HM9:Hid (Bx w9 w3.heap.size 113 [.slice ab 1 cb,.slice ap 1 cp,.slice at_ 1 ct]):=hJ ((HKp.out w3.heap.size HMc.out.lt (.inl (Nat.lt_succ_self _))).trans HMc.out);have HO9:=hJ (HOc.out.frame (w':=w9) (fun k hlt h=>HKp.out k hlt (.inr (h.elim False.elim (fun e=>by have:=HOc.out.base_le k e;omega)))) hzz);have HPp9:=hJ (HPc.out.frame (w':=w9) (fun k hk hlt=>HKp.out k hlt (hk.imp (fun h=>by omega) id)));have HTt9:=hJ (HTc.out.frame (w':=w9) (fun k hk hlt=>HKp.out k hlt (hk.imp (fun h=>by omega) id)));have HS99:=hJ (((HS9.out.below HB7.out).kb HKc.out (fun q hq e=>by rcases hq with h | h <;> omega)).frame (w':=w9) (fun k hk hlt=>HKp.out k hlt (hk.imp (fun h=>by omega) id)));have HS89:=hJ (((HS86.out.below HB7.out).kb HKc.out (fun q hq e=>by rcases hq with h | h <;> omega)).frame (w':=w9) (fun k hk hlt=>HKp.out k hlt (hk.imp (fun h=>by omega) id)));have HA9:Hid (Bx w9 w.heap.size 29 [.slice p1 1 c1,.string aS,.string ⟨#[]⟩,.slice t1 0 d1,.slice q1 0 e1]):=hJ ((HKp.out w.heap.size (by omega) (.inl (by omega))).trans (((HA6.out.below HB7.out HA6.out.lt).kb HKc.out (by omega))));have hw6:=HW6.out.size;have hw3:=HW3.out.size;have HW9:=hJ (HW6.out.trans ((HB7.out.mono hw6).trans ((HKc.out.below hw3 (by omega)).trans (hb9.mono (by omega)))));clear hb9 hk9 HKp HMc HOc HPc HTc HKc HOv HSv HB7 HM6 HO76 HS9 HS86 HA6 HW6 HGa HSa y2c;clear hown9;rw [rounds_succ];obtain ⟨_,_,⟨gb,gd,rfl,_⟩,g0,g1,g2⟩:=HS99.out.typ 1 (by decide);have x0:w9.cell? ⟨b9,o9+3,none⟩=some (.string aS):=g0;have x1:w9.cell? ⟨b9,o9+3+1,none⟩=some (.string ⟨#[]⟩):=g1;have x2:w9.cell? ⟨b9,o9+3+2,none⟩=some (.slice gb 0 gd):=g2;have x3:w9.cell? ⟨b9,o9+4,none⟩=some (.string ⟨#[]⟩):=g1;have x4:w9.cell? ⟨b9,o9+5,none⟩=some (.slice gb 0 gd):=g2;obtain ⟨_,_,⟨sb,sd,rfl,_⟩,s0,s1,s2⟩:=HS89.out.typ 1 (by decide);have y0:w9.cell? ⟨b8,o8+3,none⟩=some (.string iS):=s0;have y1:w9.cell? ⟨b8,o8+4,none⟩=some (.string ⟨#[]⟩):=s1;have y2:w9.cell? ⟨b8,o8+5,none⟩=some (.slice sb 0 sd):=s2
  clear g0 g1 g2 s0 s1 s2
  have HBs:Hid (Sl RBnd (fun q=>q≠w3.heap.size) w9 ab 1 cb [bA]):=by
   obtain ⟨a',c',e',hs'⟩:=HO9.out.sl;rw [Value.slice.injEq] at e';obtain ⟨rfl,_,rfl⟩:=e';exact hJ (hs'.mono (fun q hq _=>by have hq:W7.heap.size≤q:=hq.elim False.elim id;omega))
  go_upto_region 11 with fail
  obtain ⟨HB10,hk10,hz10⟩:=box1 w9 26 [.string aS,.string ⟨#[]⟩,.slice gb 0 gd];have k0:=box0 hk10 0 _ rfl;have k1:=box0 hk10 1 _ rfl;have k2:=box0 hk10 2 _ rfl;clear hk10 x0 x1 x2 x3 x4;generalize w9.alloc (.cells [.string aS,.string ⟨#[]⟩,.slice gb 0 gd].toArray 26)=W10 at *;have y0:=kAF y0 _ HB10.out;have y1:=kAF y1 _ HB10.out;have y2:=kAF y2 _ HB10.out;have hcp:=HPp9.out.cap;have hct:=HTt9.out.cap;have hm9:=HM9.out.lt;have HP:Hid (∀ W,Below w9.heap.size w9 W→_):=hJ (fun W hW=>mat_pair2 (ag:=gb) (as_:=sb) (cg:=gd) (cs:=sd) (HM9.out.below hW HM9.out.lt) (HBs.out.below hW) hcp hct)
  go_cut [11] (fun v W=>v= .int .i64 0∧Hid (Bx W w3.heap.size 113 [.slice ab 1 cb,.slice ap 1 cp,.slice at_ 1 ct])∧Hid (Kb w3.heap.size W10 W))
  case first =>
   go_region_held3 (fun W=>W.cell? ⟨w9.heap.size,0,none⟩=some (.string aS)∧W.cell? ⟨w9.heap.size,1,none⟩=some (.string ⟨#[]⟩)∧W.cell? ⟨w9.heap.size,2,none⟩=some (.slice gb 0 gd)∧W.cell? ⟨b8,o8+3,none⟩=some (.string iS)∧W.cell? ⟨b8,o8+4,none⟩=some (.string ⟨#[]⟩)∧W.cell? ⟨b8,o8+5,none⟩=some (.slice sb 0 sd)) (first | (with_reducible exact ⟨z0,z1,z2,z3,z4,z5⟩) | (with_reducible exact ⟨k0,k1,k2,y0,y1,y2⟩) | go_keep) (first
    | (go_at_call 97
       refine (HP.out W10.drew HB10.out.drew).mono ?_;rintro e w11 ⟨rfl,hM11,hK11⟩;have z0:=kC4 (w:=W10.drew) k0 hK11 (by show w9.heap.size≠w3.heap.size;omega);have z1:=kC4 (w:=W10.drew) k1 hK11 (by show w9.heap.size≠w3.heap.size;omega);have z2:=kC4 (w:=W10.drew) k2 hK11 (by show w9.heap.size≠w3.heap.size;omega);have z3:=kC4 (w:=W10.drew) y0 hK11 (fun e=>by have e:b8=w3.heap.size:=e;rcases hi8 with h | h <;> omega);have z4:=kC4 (w:=W10.drew) y1 hK11 (fun e=>by have e:b8=w3.heap.size:=e;rcases hi8 with h | h <;> omega);have z5:=kC4 (w:=W10.drew) y2 hK11 (fun e=>by have e:b8=w3.heap.size:=e;rcases hi8 with h | h <;> omega)))
   all_goals
    have HRa:=hJ (And.intro hM11 hK11);clear hM11 hK11 z0 z1 z2 z3 z4 z5
    go_wp2_with fail
    go_meet
    exact ⟨rfl,hJ HRa.out.1,hJ ⟨HRa.out.2.os,HRa.out.2.tape,HRa.out.2.output,HRa.out.2.size,HRa.out.2.block⟩⟩
  case rest =>
   obtain ⟨rfl,HMd,HKd⟩:=hcut;have y2c:=kC4 y2 HKd.out hi8';have hzd:=HKd.out.size;have HA12:=hJ ((HA9.out.below HB10.out HA9.out.lt).kb HKd.out (by omega));have HO12:=hJ ((HO9.out.below HB10.out).kb HKd.out (fun _ h=>h.elim) (by omega));have HPp12:=hJ ((HPp9.out.below HB10.out).kb HKd.out (fun q hq e=>by rcases hq with h | h <;> omega));have HTt12:=hJ ((HTt9.out.below HB10.out).kb HKd.out (fun q hq e=>by rcases hq with h | h <;> omega));have HW12:=hJ (HW9.out.trans ((HB10.out.mono HW9.out.size).trans (HKd.out.below hw3 (by omega))));clear y0 y1 y2 k0 k1 k2 HP HBs HM9 HO9 HPp9 HTt9 HS99 HS89 HA9 HW9 HB10 HKd
   go_wp2_with (at_builtin;refine app_nothing kBP rfl _ _ rfl a10 1 c10 hc10 rfl sb sd rfl ?_)
   rw [rounds_succ];have xa0:=HA12.out.cell 0 _ rfl;have xa1:=HA12.out.cell 1 _ rfl;have xa2:=HA12.out.cell 2 _ rfl;have xa3:=HA12.out.cell 3 _ rfl;have xa4:=HA12.out.cell 4 _ rfl;have hbs:W7.heap.size≤wc.heap.size:=by omega
   have HD:=hJ (mat_dims HMd.out HO12.out hbs (by omega) HPp12.out HTt12.out (RSch.below HR1.out HW12.out) (HE.out _ HW12.out))
   change Hid (Calls _ _ #[_,.agg #[.slice p1 1 c1,.string aS,.string ⟨#[]⟩,.slice t1 0 d1,.slice q1 0 e1]] _ _) at HD
   go_wp2_with fail
   refine HD.out.mono ?_;rintro e w13 ⟨rfl,⟨ad,cd,hM13,hO13⟩,hK13⟩;have HM13:=hJ hM13;have HA13:Hid (Bx w13 w.heap.size 29 [.slice p1 1 c1,.string aS,.string ⟨#[]⟩,.slice t1 0 d1,.slice q1 0 e1]):=hJ ((hK13.block w.heap.size (by omega) (by omega)).trans HA12.out);have HW13:Hid (Below w.heap.size w w13):=hJ (HW12.out.trans ⟨hK13.os,hK13.tape,hK13.output,hK13.size,fun k hk=>hK13.block k (by omega) (by omega)⟩);have hz13:=hK13.size;have HSo:=hJ (sortFunc_Bnd hO13 (by omega) (by decide) 101 (kBF func101 rfl rfl) cmpK preB (fun S' T' W x y cs ds h1 h2=>inst_cmp h1 h2));clear hM13 hO13 hK13 HD xa0 xa1 xa2 xa3 xa4 HMd HO12 HPp12 HTt12 HW12 HA12;have xa2:=HA13.out.cell 4 _ rfl;have m0:=HM13.out.cell 0 _ rfl
   go_wp2_with fail
   refine wp_loop_rounds 1 ?_;rw [rounds_succ]
   go_wp2_with fail
   refine wp_loop_rounds 1 ?_;rw [rounds_succ]
   go_wp2_with fail
   refine HSo.out.mono ?_;rintro e w14 ⟨⟨rfl,m,hpm,hle,hom,_⟩,hb14⟩;rw [two_sorted hpm hle] at hom;have HM14:=hJ (HM13.out.below hb14 (by omega));have HW14:=hJ (HW13.out.trans (hb14.mono (by omega)));obtain ⟨a',c',e',hs'⟩:=hom.sl;rw [Value.slice.injEq] at e';obtain ⟨rfl,_,rfl⟩:=e';have HF:Hid (Sl RBnd (fun q=>w.heap.size≤q) w14 ad 2 cd [bd3,bA]):=hJ (hs'.mono (fun q hq _=>by have hq:W7.heap.size≤q:=hq.elim False.elim id;omega));clear hs' hom hpm hle hb14 m0 xa2;have m0:=HM14.out.cell 0 _ rfl
   go_wp2_with fail
   go_returns
   exact ⟨⟨ad,cd,rfl,HF.out⟩,HW14.out⟩
theorem types_Canonical {S:Blk} {s:Sch} {cs:List Value} {w:World} (h:RSch.rd S w cs s) (hz:szS s) (hwl:kAM s=true→s.wh.length≤12) (E:Env w) :
 Calls Tryz.prog 38 #[.agg cs.toArray] w fun e w'=>(∃ ds,e= .returned (.tuple #[.agg ds.toArray,.int .i64 (canErr s)])∧RSch.rd (fun q=>w.heap.size≤q) w' ds (can s))∧Below w.heap.size w w':=by
 have HV:Hid (∀ W,Below w.heap.size w W→Calls Tryz.prog 30 #[.agg cs.toArray] W fun e w'=>e= .returned (.bool (kAM s))∧Below W.heap.size W w') :=
  hJ (fun W hW=>kBA (RSch.below h hW) hz (E.below hW))
 have HE:=hJ (fun (W:World) (hW:Below w.heap.size w W)=>E.below hW);have HSc:=hJ (fun (W:World) (hW:Below w.heap.size w W)=>RSch.below h hW);cases hv:kAM s with
 | false =>
   rw [hv] at HV;have HBd:=hJ (can_no hv);obtain ⟨p,t,q,rfl,⟨ap,cp,rfl,_⟩,⟨at_,ct,rfl,_⟩,⟨aq,cq,rfl,_⟩⟩:=h;clear hv;obtain ⟨B0,ya,yb,hW0⟩:=box2 w 29 [.slice ap s.params.length cp,.string s.result.elem,.string s.result.shape.row,.slice at_ s.result.shape.dims.length ct,.slice aq s.wh.length cq] 29 [.slice none 0 0,.string ⟨#[]⟩,.string ⟨#[]⟩,.slice none 0 0,.slice none 0 0];have xa0:=box0 ya 0 _ rfl;have xa1:=box0 ya 1 _ rfl;have xa2:=box0 ya 2 _ rfl;have xa3:=box0 ya 3 _ rfl;have xa4:=box0 ya 4 _ rfl;have xb0:=box0 yb 0 _ rfl;have xb1:=box0 yb 1 _ rfl;have xb2:=box0 yb 2 _ rfl;have xb3:=box0 yb 3 _ rfl;have xb4:=box0 yb 4 _ rfl;have bka:Bx _ _ _ _:=ya;have bkb:Bx _ _ _ _:=yb;clear ya yb;have HR0:=hJ bkb;clear bka bkb;go_enter func38,ntmps38
   go_wp2_with fail
   refine (HV.out _ B0.out).mono ?_;rintro e w1 ⟨rfl,hb1⟩;have HRw:=hJ (HR0.out.below hb1 HR0.out.lt);have HWw:Hid (Below w.heap.size w w1):=hJ (B0.out.trans (hb1.mono B0.out.size));clear xa0 xa1 xa2 xa3 xa4 xb0 xb1 xb2 xb3 xb4 hb1 HR0 B0 HV;have v0:=HRw.out.cell 0 _ rfl;have v1:=HRw.out.cell 1 _ rfl;have v2:=HRw.out.cell 2 _ rfl;have v3:=HRw.out.cell 3 _ rfl;have v4:=HRw.out.cell 4 _ rfl;have u0:=HRw.out.fz 0;have u1:=HRw.out.fz 1;have u2:=HRw.out.fz 2;have u3:=HRw.out.fz 3;have u4:=HRw.out.fz 4;have hlr:=HRw.out.lt;have HX60:=hJ (((((HRw.out.set 0 (.slice none 0 0)).set 1 (.string ⟨#[]⟩)).set 2 (.string ⟨#[]⟩)).set 3 (.slice none 0 0)).set 4 (.slice none 0 0));have s0:=HX60.out.cell 0 _ rfl;have s1:=HX60.out.cell 1 _ rfl;have s2:=HX60.out.cell 2 _ rfl;have s3:=HX60.out.cell 3 _ rfl;have s4:=HX60.out.cell 4 _ rfl
   go_wp2_with fail
   refine bodyPost_ret (v:=.tuple #[.agg #[.slice none 0 0,.string ⟨#[]⟩,.string ⟨#[]⟩,.slice none 0 0,.slice none 0 0],.int .i64 1]) (by simp [results,results38,go_sem,s0,s1,s2,s3,s4,hlr]) rfl ?_;refine ⟨⟨[.slice none 0 0,.string ⟨#[]⟩,.string ⟨#[]⟩,.slice none 0 0,.slice none 0 0],by rw [HBd.out.1],by rw [HBd.out.2];exact (kEL.no _ _).rd⟩,?_⟩
   repeat (first | exact HWw.out | refine Below.setCell ?_ (by show _≤w.heap.size+1;omega) _)
 | true =>
   rw [hv] at HV
   have HCV:Hid (∀ W,Below w.heap.size w W→Calls Tryz.prog 32 #[.agg cs.toArray] W fun e w'=>(∃ v,e= .returned v∧Own RBnd 47 (fun _=>False) w' W.heap.size v (kBW s))∧Below W.heap.size W w') :=
    hJ (fun W hW=>types_Vars (HSc.out W hW) hv (HE.out W hW))
   have HInv:=hJ (varsSch_inv hv);have HLen:=hJ (varsSch_len (s:=s));have HCS:=hJ (fun (W:World) (hW:Below w.heap.size w W) (T:Blk) (a:Option Addr) (nb cb:Nat) (hbs:Sl RBnd T W a nb cb (ren (kBW s)))=>kE1 (HSc.out W hW) hv (ren (kBW s)) a nb cb hbs (canon_binds hv) (HE.out W hW));have HBad:=hJ (fun q=>can_bad hv q);have HGood:=hJ (fun q=>can_good hv q);have HWL:Hid (s.wh.length≤12):=hJ (hwl hv);obtain ⟨p,t,q,rfl,⟨ap,cp,rfl,_⟩,⟨at_,ct,rfl,_⟩,⟨aq,cq,rfl,_⟩⟩:=h;clear hv hwl HSc E;generalize kBW s=L at *;obtain ⟨B0,ya,yb,hW0⟩:=box2 w 29 [.slice ap s.params.length cp,.string s.result.elem,.string s.result.shape.row,.slice at_ s.result.shape.dims.length ct,.slice aq s.wh.length cq] 29 [.slice none 0 0,.string ⟨#[]⟩,.string ⟨#[]⟩,.slice none 0 0,.slice none 0 0];have xa0:=box0 ya 0 _ rfl;have xa1:=box0 ya 1 _ rfl;have xa2:=box0 ya 2 _ rfl;have xa3:=box0 ya 3 _ rfl;have xa4:=box0 ya 4 _ rfl;have xb0:=box0 yb 0 _ rfl;have xb1:=box0 yb 1 _ rfl;have xb2:=box0 yb 2 _ rfl;have xb3:=box0 yb 3 _ rfl;have xb4:=box0 yb 4 _ rfl;have bka:Bx _ _ _ _:=ya;have bkb:Bx _ _ _ _:=yb;clear ya yb;have HA0:=hJ bka;have HR0:=hJ bkb;clear bka bkb;go_enter func38,ntmps38
   go_wp2_with fail
   refine (HV.out _ B0.out).mono ?_;rintro e w1 ⟨rfl,hb1⟩;have HA1:=hJ (HA0.out.below hb1 HA0.out.lt);have HR1:=hJ (HR0.out.below hb1 HR0.out.lt);have HW1:Hid (Below w.heap.size w w1):=hJ (B0.out.trans (hb1.mono B0.out.size));have hz1:w.heap.size+2≤w1.heap.size:=by have:=hb1.size;simpa using this
   clear xa0 xa1 xa2 xa3 xa4 xb0 xb1 xb2 xb3 xb4 hb1 HR0 HA0 B0 HV hW0;have y0:=HA1.out.cell 0 _ rfl;have y1:=HA1.out.cell 1 _ rfl;have y2:=HA1.out.cell 2 _ rfl;have y3:=HA1.out.cell 3 _ rfl;have y4:=HA1.out.cell 4 _ rfl;have hl1:=HA1.out.lt;have HBa:Hid (Below w1.heap.size w1 (w1.alloc (.cells #[.int .i64 0,.int .i64 0,.int .i64 0,.int .i64 0] 100))):=hJ ((Below.refl _ _).alloc (Nat.le_refl _) _)
   go_wp2_with fail
   refine (HCV.out _ (HW1.out.trans (HBa.out.mono HW1.out.size))).mono ?_;rintro e w2 ⟨⟨v,rfl,hown⟩,hb2⟩;obtain ⟨a5,c5,rfl,_⟩:=hown.sl;have HB2:=hJ (HBa.out.trans (hb2.mono HBa.out.size));have HG2:Hid (Bx w2 w1.heap.size 100 (cntV L 0)):=hJ (by rw [cntV_zero];exact (Bx.fresh w1 100 [.int .i64 0,.int .i64 0,.int .i64 0,.int .i64 0]).below hb2 (by simp));have HA2:=hJ (HA1.out.below HB2.out HA1.out.lt);have HR2:=hJ (HR1.out.below HB2.out HR1.out.lt);have HW2:=hJ (HW1.out.trans (HB2.out.mono HW1.out.size));have hz2:w1.heap.size+1≤w2.heap.size:=by have:=hb2.size;simpa using this
   have HO2:Hid (Own RBnd 47 (fun q=>w2.heap.size≤q) w2 (w1.heap.size+1) (.slice a5 L.length c5) (kFN L 0)):=hJ (by have:=hown.mono (S':=fun q=>w2.heap.size≤q) (fun k hk _=>hk.elim);simpa [renUp_zero] using this);have HSm:L.length≤3000:=HLen.out;clear hown hb2 y0 y1 y2 y3 y4 HCV HA1 HR1 hl1 HBa;generalize hn:L.length=n at *;have HN:=hJ hn;clear hn
   go_wp2_with fail
   go_loopw [19] (fun iv wr=>∃ k:Nat,k≤n∧iv= .int .i64 k∧Hid (Own RBnd 47 (fun q=>w2.heap.size≤q) wr (w1.heap.size+1) (.slice a5 n c5) (kFN L k))∧Hid (Bx wr w1.heap.size 100 (cntV L k))∧Hid (∀ q,q<w2.heap.size→q≠w1.heap.size→(Value.slice a5 n c5).ownBlock≠some q→wr.heap[q]? =w2.heap[q]?)∧Below w.heap.size w wr∧w2.heap.size≤wr.heap.size) (fun iv _=>n - (intOf iv).toNat)
   case atStart=>exact ⟨0,Nat.zero_le _,rfl,HO2,HG2,hJ (fun _ _ _ _=>rfl),HW2.out,Nat.le_refl _⟩
   case round =>
    obtain ⟨k,hk,rfl,HO,HG,HK,hB,hsz⟩:=hrel;by_cases hlt:k<n
    · have hkl:k<L.length:=by rw [HN.out];exact hlt
      obtain ⟨gb,c',css,rest,hv,hgb,hR,hL,hlc,hcm,hsl⟩:=HO.out.raw (by rw [kDI (by omega)];omega);rw [Value.slice.injEq] at hv;obtain ⟨rfl,-,rfl⟩:=hv;rw [kDI (by omega),HN.out] at hlc;obtain ⟨cs,hi,hr⟩:=hL.2 k _ (renUp_at hkl);have HGood2:=hJ (HInv.out.good _ (kAJ hkl));have HRen:=hJ (renAt1 hkl HGood2.out.1);have HNext:=hJ (renUp_next hkl);have hL3:L.length≤3000:=by rw [HN.out];exact HSm
      have hc1:=cnt_bd hL3 1 k;have hc2:=cnt_bd hL3 2 k;have hc3:=cnt_bd hL3 3 k;have HCV0:Hid (cntV L k=[.int .i64 0,.int .i64 (cntK 1 (L.take k)),.int .i64 (cntK 2 (L.take k)),.int .i64 (cntK 3 (L.take k))]):=hJ rfl;obtain ⟨kd,nv,hx⟩:∃ kd nv,L.getD k default=⟨kd,nv,⟨0,[]⟩,⟨⟨#[]⟩,[]⟩,⟨#[]⟩⟩:=⟨_,_,HGood2.out.1⟩
      rw [hx] at HRen HGood2 hr;obtain ⟨t,d,rfl,⟨ta,tc,rfl,hta⟩,⟨da,dc,rfl,hda⟩⟩:=hr;have hi:css[k]? =some [.int .i64 kd,.string nv,.int .i64 0,.slice ta 0 tc,.string ⟨#[]⟩,.slice da 0 dc,.string ⟨#[]⟩]:=hi;have HI:=hJ hi;have HTa:Hid (tc≤maxLen∧(ta=none→tc=0)):=hJ ⟨hta.max,hta.nil⟩;have HDa:Hid (dc≤maxLen∧(da=none→dc=0)):=hJ ⟨hda.max,hda.nil⟩;have hok:=HGood2.out.2;have HR:Hid (Raw 7 47 wr gb css rest):=hJ hR;have HL:=hJ hL;have HSl:Hid (css.length * 7+rest.length=c5 * 7):=hJ hsl;have hgl:=hR.lt;have hgne:w1.heap.size≠gb:=by omega
      obtain ⟨y,hy⟩:∃ y,renAt L k=y:=⟨_,rfl⟩
      have HYe:=hJ hy;rw [hy] at HNext;obtain ⟨n1,hn1⟩:∃ q,cntK 1 (L.take k)=q:=⟨_,rfl⟩
      obtain ⟨n2,hn2⟩:∃ q,cntK 2 (L.take k)=q:=⟨_,rfl⟩
      obtain ⟨n3,hn3'⟩:∃ q,cntK 3 (L.take k)=q:=⟨_,rfl⟩
      have HCe:Hid (cntK 1 (L.take k)=n1∧cntK 2 (L.take k)=n2∧cntK 3 (L.take k)=n3):=hJ ⟨hn1,hn2,hn3'⟩;rw [hn1] at hc1;rw [hn2] at hc2;rw [hn3'] at hc3;rw [hn1,hn2,hn3'] at HCV0;have HGq:=hJ (HCV0.out ▸ HG.out);have HOl:Hid (∀ q,q<w2.heap.size→(Value.slice (some ⟨gb,0,none⟩) n c5).ownBlock≠some q→q≠gb):=hJ (fun q _ h e=>h (by rw [e];rfl));clear hn1 hn2 hn3' hx hkl hta hda hR hL hsl hi hL3 HGood2 hy HO HG;rcases hok with ⟨hok,hnm⟩ | ⟨hok,hnm⟩ | ⟨hok,hnm⟩
      · skip
        have hkd:kd=1:=hok;subst hkd;have HR1':=hJ (HRen.out.at1 rfl);rw [HCe.out.1] at HR1';clear HRen;have e0:=HR.out.cell HI.out 0 _ rfl;rw [Nat.add_zero] at e0;have g1:=HGq.out.cell 1 _ rfl;have v1:=HGq.out.fz 1;have HGb:=hJ (HGq.out.set 1 (.int .i64 ((n1:Int)+1)));have HRb:Hid (Raw 7 47 (wr.setCell ⟨w1.heap.size,1,none⟩ (.int .i64 ((n1:Int)+1))) gb css rest):=hJ (HR.out.other (by show w1.heap.size≠gb;exact hgne));have HKb:Hid (∀ q,q<wr.heap.size→q≠w1.heap.size→(wr.setCell ⟨w1.heap.size,1,none⟩ (.int .i64 ((n1:Int)+1))).heap[q]? =wr.heap[q]?):=hJ (fun q hq hne=>kAA (fun e=>hne e.symm));have HBb:Hid (Below w.heap.size w (wr.setCell ⟨w1.heap.size,1,none⟩ (.int .i64 ((n1:Int)+1)))):=hJ (hB.setCell (by show w.heap.size≤w1.heap.size;omega) _);have HZb:Hid ((wr.setCell ⟨w1.heap.size,1,none⟩ (.int .i64 ((n1:Int)+1))).heap.size=wr.heap.size):=hJ (by simp)
        go_wp2_with fail
        have f0:=HRb.out.cell HI.out 0 _ rfl;have h1:=HGb.out.cell 1 _ rfl;rw [Nat.add_zero] at f0;clear e0 g1 v1;generalize (wr.setCell ⟨w1.heap.size,1,none⟩ (.int .i64 ((n1:Int)+1)))=wb at *
        have HIt:Hid (∀ t:Later wb,Calls Tryz.prog 88 #[.int .i64 ((n1:Int)+1)] t.w fun e w'=>e= .returned (.string (decS (n1+1)))∧Below t.w.heap.size t.w w'):=hJ (fun t=>by
         have h:=itoa_nat (n1+1) (by omega) t.w ((HE.out wb HBb.out).at_ t)
         rwa [Int.natCast_add,Int.natCast_one] at h)
        have hds:(decS (n1+1)).size≤6:=by
         show (Lib.decDigits (n1+1)).length≤6
         exact dec_len 5 _ (by omega)
        have HNm:Hid (∀ c:UInt8,(⟨#[c]⟩:Str)++decS (n1+1)=nm c (n1+1)):=hJ (fun c=>rfl);generalize decS (n1+1)=dd at *;have F0:=Later.cell f0;have H1:=Later.cell h1;clear f0 h1;have hix:∀ W:World,(Instr.index 102 (.agg #[.string ⟨#[]⟩,.string ⟨#[110]⟩,.string ⟨#[114]⟩,.string ⟨#[65]⟩]) (.int .i64 1)).run Tryz.prog W= .ok (.string ⟨#[110]⟩) W:=fun W=>by kernel_rfl
        refine kAC (by kernel_rfl) (by kernel_rfl) ?_
        repeat (go_big_quiet_step (first | fail | exact Later.call (HIt.out _)))
        refine wpQuiet_nil ?_;rintro _ ⟨t9,rfl⟩;have HBq:Hid (Below wb.heap.size wb t9.w):=hJ t9.b;generalize t9.w=wq at *;clear F0 H1 HIt;have hzb:wb.heap.size=wr.heap.size:=HZb.out;have hzq:=HBq.out.size;rw [hzb] at hzq;have HRq:=hJ (HRb.out.below HBq.out HRb.out.lt);have HGq2:=hJ (HGb.out.below HBq.out HGb.out.lt);have HKq:Hid (∀ q,q<wr.heap.size→q≠w1.heap.size→wq.heap[q]? =wr.heap[q]?):=hJ (fun q hq hne=>(HBq.out.block q (by rw [HZb.out];exact hq)).trans (HKb.out q hq hne));have HBw:Hid (Below w.heap.size w wq):=hJ (HBb.out.trans (HBq.out.mono HBb.out.size));have p0:=HRq.out.cell HI.out 0 _ rfl;rw [Nat.add_zero] at p0;clear hzb HRb HGb HKb HBb HBq HZb HR HGq
        go_wp2_with fail
        refine (linear_Var ((⟨#[110]⟩:Str)++dd) wq).mono ?_;rintro e w5 ⟨⟨_,rfl,hr5⟩,hb5⟩;obtain ⟨_,rfl,a9,c9,rfl,hs9⟩:=hr5;have HS9:=hJ hs9;have HR5:=hJ (HRq.out.below hb5 HRq.out.lt);have c2:=HR5.out.cell HI.out 2 _ rfl;have c3:=HR5.out.cell HI.out 3 _ rfl;have v2:=HR5.out.fz (k * 7+2);have v3:=HR5.out.fz (k * 7+3);have hz5:=hb5.size;have HRd:Hid (Raw 7 47 ((w5.setCell ⟨gb,k * 7+2,none⟩ (.int .i64 0)).setCell ⟨gb,k * 7+3,none⟩ (.slice a9 1 c9)) gb (css.set k [.int .i64 1,.string nv,.int .i64 0,.slice a9 1 c9,.string ⟨#[]⟩,.slice da 0 dc,.string ⟨#[]⟩]) rest):=hJ (HR5.out.set2 HI.out (by decide) (by decide) (.int .i64 0) (.slice a9 1 c9));have HGd:=hJ (((HGq2.out.below hb5 HGq2.out.lt).other (a:=⟨gb,k * 7+2,none⟩) (u:=.int .i64 0) (by show gb≠w1.heap.size;omega)).other (a:=⟨gb,k * 7+3,none⟩) (u:=.slice a9 1 c9) (by show gb≠w1.heap.size;omega));have HKd:Hid (∀ q,q<wr.heap.size→q≠w1.heap.size→q≠gb→((w5.setCell ⟨gb,k * 7+2,none⟩ (.int .i64 0)).setCell ⟨gb,k * 7+3,none⟩ (.slice a9 1 c9)).heap[q]? =wr.heap[q]?):=hJ (fun q hq hne hg=>(kAA (fun e=>hg e.symm)).trans ((kAA (fun e=>hg e.symm)).trans ((hb5.block q (by omega)).trans (HKq.out q hq hne))));have HBd:Hid (Below w.heap.size w ((w5.setCell ⟨gb,k * 7+2,none⟩ (.int .i64 0)).setCell ⟨gb,k * 7+3,none⟩ (.slice a9 1 c9))):=hJ (((HBw.out.trans (hb5.mono HBw.out.size)).setCell (by show w.heap.size≤gb;omega) _).setCell (by show w.heap.size≤gb;omega) _);have HZd:Hid (w2.heap.size≤((w5.setCell ⟨gb,k * 7+2,none⟩ (.int .i64 0)).setCell ⟨gb,k * 7+3,none⟩ (.slice a9 1 c9)).heap.size):=hJ (by simp;omega)
        have HRY:Hid (RBnd.rd (fun q=>w2.heap.size≤q∧q≠gb) ((w5.setCell ⟨gb,k * 7+2,none⟩ (.int .i64 0)).setCell ⟨gb,k * 7+3,none⟩ (.slice a9 1 c9)) [.int .i64 1,.string nv,.int .i64 0,.slice a9 1 c9,.string ⟨#[]⟩,.slice da 0 dc,.string ⟨#[]⟩] y):=hJ (by
         rw [← HYe.out,HR1'.out.1,← HNm.out];refine ⟨_,_,rfl,⟨a9,c9,rfl,?_⟩,⟨da,dc,rfl,Sl.zero HDa.out.1 HDa.out.2⟩⟩;have hne:∀ q,wq.heap.size≤q→gb≠q:=fun q hq=>by omega
         exact ((HS9.out.set (hne)).set hne).mono (fun q hq _=>⟨by have hq:wq.heap.size≤q:=hq;omega,fun e=>hne q hq e.symm⟩))
        clear hs9
        have HLz:Hid (Lies RBnd (fun q=>w2.heap.size≤q) ((w5.setCell ⟨gb,k * 7+2,none⟩ (.int .i64 0)).setCell ⟨gb,k * 7+3,none⟩ (.slice a9 1 c9)) gb (css.set k [.int .i64 1,.string nv,.int .i64 0,.slice a9 1 c9,.string ⟨#[]⟩,.slice da 0 dc,.string ⟨#[]⟩]) (kFN L (k+1))):=hJ (by
         rw [HNext.out];exact (HL.out.frame (w':=((w5.setCell ⟨gb,k * 7+2,none⟩ (.int .i64 0)).setCell ⟨gb,k * 7+3,none⟩ (.slice a9 1 c9))) (fun q hq hne hlt=>HKd.out q hlt (by have:w2.heap.size≤q:=hq;omega) hne)).set k HRY.out)
        have HOz:Hid (Own RBnd 47 (fun q=>w2.heap.size≤q) ((w5.setCell ⟨gb,k * 7+2,none⟩ (.int .i64 0)).setCell ⟨gb,k * 7+3,none⟩ (.slice a9 1 c9)) (w1.heap.size+1) (.slice (some ⟨gb,0,none⟩) n c5) (kFN L (k+1))):=hJ (by
         have h:=HRd.out.own HLz.out hgb (by rw [kDI (by rw [HN.out];omega),HN.out];exact hlc) hcm (by rw [List.length_set];exact HSl.out)
         rwa [kDI (by rw [HN.out];omega),HN.out] at h)
        have HGz:Hid (Bx ((w5.setCell ⟨gb,k * 7+2,none⟩ (.int .i64 0)).setCell ⟨gb,k * 7+3,none⟩ (.slice a9 1 c9)) w1.heap.size 100 (cntV L (k+1))):=hJ (by rw [HR1'.out.2,HCV0.out];exact HGd.out);have HKz:Hid (∀ q,q<w2.heap.size→q≠w1.heap.size→(Value.slice (some ⟨gb,0,none⟩) n c5).ownBlock≠some q→((w5.setCell ⟨gb,k * 7+2,none⟩ (.int .i64 0)).setCell ⟨gb,k * 7+3,none⟩ (.slice a9 1 c9)).heap[q]? =w2.heap[q]?):=hJ (fun q hq hne ho=>(HKd.out q (by omega) hne (HOl.out q hq ho)).trans (HK.out q hq hne ho))
        go_wp2_with fail
        go_roundw
        case rel=>exact ⟨k+1,by omega,by go_num,HOz,HGz,HKz,HBd.out,HZd.out⟩
        case measure=>simp [intOf];omega
      · skip
        have hkd:kd=2:=hok;subst hkd;have HR1':=hJ (HRen.out.at2 rfl);rw [HCe.out.2.1] at HR1';clear HRen;have e0:=HR.out.cell HI.out 0 _ rfl;rw [Nat.add_zero] at e0;have g1:=HGq.out.cell 2 _ rfl;have v1:=HGq.out.fz 2;have HGb:=hJ (HGq.out.set 2 (.int .i64 ((n2:Int)+1)));have HRb:Hid (Raw 7 47 (wr.setCell ⟨w1.heap.size,2,none⟩ (.int .i64 ((n2:Int)+1))) gb css rest):=hJ (HR.out.other (by show w1.heap.size≠gb;exact hgne));have HKb:Hid (∀ q,q<wr.heap.size→q≠w1.heap.size→(wr.setCell ⟨w1.heap.size,2,none⟩ (.int .i64 ((n2:Int)+1))).heap[q]? =wr.heap[q]?):=hJ (fun q hq hne=>kAA (fun e=>hne e.symm));have HBb:Hid (Below w.heap.size w (wr.setCell ⟨w1.heap.size,2,none⟩ (.int .i64 ((n2:Int)+1)))):=hJ (hB.setCell (by show w.heap.size≤w1.heap.size;omega) _);have HZb:Hid ((wr.setCell ⟨w1.heap.size,2,none⟩ (.int .i64 ((n2:Int)+1))).heap.size=wr.heap.size):=hJ (by simp)
        go_wp2_with fail
        have f0:=HRb.out.cell HI.out 0 _ rfl;have h1:=HGb.out.cell 2 _ rfl;rw [Nat.add_zero] at f0;clear e0 g1 v1;generalize (wr.setCell ⟨w1.heap.size,2,none⟩ (.int .i64 ((n2:Int)+1)))=wb at *
        have HIt:Hid (∀ t:Later wb,Calls Tryz.prog 88 #[.int .i64 ((n2:Int)+1)] t.w fun e w'=>e= .returned (.string (decS (n2+1)))∧Below t.w.heap.size t.w w'):=hJ (fun t=>by
         have h:=itoa_nat (n2+1) (by omega) t.w ((HE.out wb HBb.out).at_ t)
         rwa [Int.natCast_add,Int.natCast_one] at h)
        have hds:(decS (n2+1)).size≤6:=by
         show (Lib.decDigits (n2+1)).length≤6
         exact dec_len 5 _ (by omega)
        have HNm:Hid (∀ c:UInt8,(⟨#[c]⟩:Str)++decS (n2+1)=nm c (n2+1)):=hJ (fun c=>rfl);generalize decS (n2+1)=dd at *;have F0:=Later.cell f0;have H1:=Later.cell h1;clear f0 h1;have hix:∀ W:World,(Instr.index 102 (.agg #[.string ⟨#[]⟩,.string ⟨#[110]⟩,.string ⟨#[114]⟩,.string ⟨#[65]⟩]) (.int .i64 2)).run Tryz.prog W= .ok (.string ⟨#[114]⟩) W:=fun W=>by kernel_rfl
        refine kAC (by kernel_rfl) (by kernel_rfl) ?_
        repeat (go_big_quiet_step (first | fail | exact Later.call (HIt.out _)))
        refine wpQuiet_nil ?_;rintro _ ⟨t9,rfl⟩;have HBq:Hid (Below wb.heap.size wb t9.w):=hJ t9.b;generalize t9.w=wq at *;clear F0 H1 HIt;have hzb:wb.heap.size=wr.heap.size:=HZb.out;have hzq:=HBq.out.size;rw [hzb] at hzq;have HRq:=hJ (HRb.out.below HBq.out HRb.out.lt);have HGq2:=hJ (HGb.out.below HBq.out HGb.out.lt);have HKq:Hid (∀ q,q<wr.heap.size→q≠w1.heap.size→wq.heap[q]? =wr.heap[q]?):=hJ (fun q hq hne=>(HBq.out.block q (by rw [HZb.out];exact hq)).trans (HKb.out q hq hne));have HBw:Hid (Below w.heap.size w wq):=hJ (HBb.out.trans (HBq.out.mono HBb.out.size));have p0:=HRq.out.cell HI.out 0 _ rfl;rw [Nat.add_zero] at p0;clear hzb HRb HGb HKb HBb HBq HZb HR HGq;have c4:=HRq.out.cell HI.out 4 _ rfl;have v4:=HRq.out.fz (k * 7+4);have HRd:Hid (Raw 7 47 (wq.setCell ⟨gb,k * 7+4,none⟩ (.string ((⟨#[114]⟩:Str)++dd))) gb (css.set k [.int .i64 2,.string nv,.int .i64 0,.slice ta 0 tc,.string ((⟨#[114]⟩:Str)++dd),.slice da 0 dc,.string ⟨#[]⟩]) rest):=hJ (HRq.out.set HI.out (j:=4) (by decide) _);have HGd:=hJ (HGq2.out.other (a:=⟨gb,k * 7+4,none⟩) (u:=.string ((⟨#[114]⟩:Str)++dd)) (by show gb≠w1.heap.size;omega));have HKd:Hid (∀ q,q<wr.heap.size→q≠w1.heap.size→q≠gb→(wq.setCell ⟨gb,k * 7+4,none⟩ (.string ((⟨#[114]⟩:Str)++dd))).heap[q]? =wr.heap[q]?):=hJ (fun q hq hne hg=>(kAA (fun e=>hg e.symm)).trans (HKq.out q hq hne));have HBd:Hid (Below w.heap.size w (wq.setCell ⟨gb,k * 7+4,none⟩ (.string ((⟨#[114]⟩:Str)++dd)))):=hJ (HBw.out.setCell (by show w.heap.size≤gb;omega) _);have HZd:Hid (w2.heap.size≤(wq.setCell ⟨gb,k * 7+4,none⟩ (.string ((⟨#[114]⟩:Str)++dd))).heap.size):=hJ (by simp;omega)
        have HRY:Hid (RBnd.rd (fun q=>w2.heap.size≤q∧q≠gb) (wq.setCell ⟨gb,k * 7+4,none⟩ (.string ((⟨#[114]⟩:Str)++dd))) [.int .i64 2,.string nv,.int .i64 0,.slice ta 0 tc,.string ((⟨#[114]⟩:Str)++dd),.slice da 0 dc,.string ⟨#[]⟩] y):=hJ (by
         rw [← HYe.out,HR1'.out.1,← HNm.out];exact ⟨_,_,rfl,⟨ta,tc,rfl,Sl.zero HTa.out.1 HTa.out.2⟩,⟨da,dc,rfl,Sl.zero HDa.out.1 HDa.out.2⟩⟩)
        have HLz:Hid (Lies RBnd (fun q=>w2.heap.size≤q) (wq.setCell ⟨gb,k * 7+4,none⟩ (.string ((⟨#[114]⟩:Str)++dd))) gb (css.set k [.int .i64 2,.string nv,.int .i64 0,.slice ta 0 tc,.string ((⟨#[114]⟩:Str)++dd),.slice da 0 dc,.string ⟨#[]⟩]) (kFN L (k+1))):=hJ (by
         rw [HNext.out];exact (HL.out.frame (w':=(wq.setCell ⟨gb,k * 7+4,none⟩ (.string ((⟨#[114]⟩:Str)++dd)))) (fun q hq hne hlt=>HKd.out q hlt (by have:w2.heap.size≤q:=hq;omega) hne)).set k HRY.out)
        have HOz:Hid (Own RBnd 47 (fun q=>w2.heap.size≤q) (wq.setCell ⟨gb,k * 7+4,none⟩ (.string ((⟨#[114]⟩:Str)++dd))) (w1.heap.size+1) (.slice (some ⟨gb,0,none⟩) n c5) (kFN L (k+1))):=hJ (by
         have h:=HRd.out.own HLz.out hgb (by rw [kDI (by rw [HN.out];omega),HN.out];exact hlc) hcm (by rw [List.length_set];exact HSl.out)
         rwa [kDI (by rw [HN.out];omega),HN.out] at h)
        have HGz:Hid (Bx (wq.setCell ⟨gb,k * 7+4,none⟩ (.string ((⟨#[114]⟩:Str)++dd))) w1.heap.size 100 (cntV L (k+1))):=hJ (by rw [HR1'.out.2,HCV0.out];exact HGd.out);have HKz:Hid (∀ q,q<w2.heap.size→q≠w1.heap.size→(Value.slice (some ⟨gb,0,none⟩) n c5).ownBlock≠some q→(wq.setCell ⟨gb,k * 7+4,none⟩ (.string ((⟨#[114]⟩:Str)++dd))).heap[q]? =w2.heap[q]?):=hJ (fun q hq hne ho=>(HKd.out q (by omega) hne (HOl.out q hq ho)).trans (HK.out q hq hne ho))
        go_wp2_with fail
        go_roundw
        case rel=>exact ⟨k+1,by omega,by go_num,HOz,HGz,HKz,HBd.out,HZd.out⟩
        case measure=>simp [intOf];omega
      · skip
        have hkd:kd=3:=hok;subst hkd;have HR1':=hJ (HRen.out.at3 rfl);rw [HCe.out.2.2] at HR1';clear HRen;have e0:=HR.out.cell HI.out 0 _ rfl;rw [Nat.add_zero] at e0;have g1:=HGq.out.cell 3 _ rfl;have v1:=HGq.out.fz 3;have HGb:=hJ (HGq.out.set 3 (.int .i64 ((n3:Int)+1)));have HRb:Hid (Raw 7 47 (wr.setCell ⟨w1.heap.size,3,none⟩ (.int .i64 ((n3:Int)+1))) gb css rest):=hJ (HR.out.other (by show w1.heap.size≠gb;exact hgne));have HKb:Hid (∀ q,q<wr.heap.size→q≠w1.heap.size→(wr.setCell ⟨w1.heap.size,3,none⟩ (.int .i64 ((n3:Int)+1))).heap[q]? =wr.heap[q]?):=hJ (fun q hq hne=>kAA (fun e=>hne e.symm));have HBb:Hid (Below w.heap.size w (wr.setCell ⟨w1.heap.size,3,none⟩ (.int .i64 ((n3:Int)+1)))):=hJ (hB.setCell (by show w.heap.size≤w1.heap.size;omega) _);have HZb:Hid ((wr.setCell ⟨w1.heap.size,3,none⟩ (.int .i64 ((n3:Int)+1))).heap.size=wr.heap.size):=hJ (by simp)
        go_wp2_with fail
        have f0:=HRb.out.cell HI.out 0 _ rfl;have h1:=HGb.out.cell 3 _ rfl;rw [Nat.add_zero] at f0;clear e0 g1 v1;generalize (wr.setCell ⟨w1.heap.size,3,none⟩ (.int .i64 ((n3:Int)+1)))=wb at *
        have HIt:Hid (∀ t:Later wb,Calls Tryz.prog 88 #[.int .i64 ((n3:Int)+1)] t.w fun e w'=>e= .returned (.string (decS (n3+1)))∧Below t.w.heap.size t.w w'):=hJ (fun t=>by
         have h:=itoa_nat (n3+1) (by omega) t.w ((HE.out wb HBb.out).at_ t)
         rwa [Int.natCast_add,Int.natCast_one] at h)
        have hds:(decS (n3+1)).size≤6:=by
         show (Lib.decDigits (n3+1)).length≤6
         exact dec_len 5 _ (by omega)
        have HNm:Hid (∀ c:UInt8,(⟨#[c]⟩:Str)++decS (n3+1)=nm c (n3+1)):=hJ (fun c=>rfl);generalize decS (n3+1)=dd at *;have F0:=Later.cell f0;have H1:=Later.cell h1;clear f0 h1;have hix:∀ W:World,(Instr.index 102 (.agg #[.string ⟨#[]⟩,.string ⟨#[110]⟩,.string ⟨#[114]⟩,.string ⟨#[65]⟩]) (.int .i64 3)).run Tryz.prog W= .ok (.string ⟨#[65]⟩) W:=fun W=>by kernel_rfl
        refine kAC (by kernel_rfl) (by kernel_rfl) ?_
        repeat (go_big_quiet_step (first | fail | exact Later.call (HIt.out _)))
        refine wpQuiet_nil ?_;rintro _ ⟨t9,rfl⟩;have HBq:Hid (Below wb.heap.size wb t9.w):=hJ t9.b;generalize t9.w=wq at *;clear F0 H1 HIt;have hzb:wb.heap.size=wr.heap.size:=HZb.out;have hzq:=HBq.out.size;rw [hzb] at hzq;have HRq:=hJ (HRb.out.below HBq.out HRb.out.lt);have HGq2:=hJ (HGb.out.below HBq.out HGb.out.lt);have HKq:Hid (∀ q,q<wr.heap.size→q≠w1.heap.size→wq.heap[q]? =wr.heap[q]?):=hJ (fun q hq hne=>(HBq.out.block q (by rw [HZb.out];exact hq)).trans (HKb.out q hq hne));have HBw:Hid (Below w.heap.size w wq):=hJ (HBb.out.trans (HBq.out.mono HBb.out.size));have p0:=HRq.out.cell HI.out 0 _ rfl;rw [Nat.add_zero] at p0;clear hzb HRb HGb HKb HBb HBq HZb HR HGq;have c6:=HRq.out.cell HI.out 6 _ rfl;have v6:=HRq.out.fz (k * 7+6);have HRd:Hid (Raw 7 47 (wq.setCell ⟨gb,k * 7+6,none⟩ (.string ((⟨#[65]⟩:Str)++dd))) gb (css.set k [.int .i64 3,.string nv,.int .i64 0,.slice ta 0 tc,.string ⟨#[]⟩,.slice da 0 dc,.string ((⟨#[65]⟩:Str)++dd)]) rest):=hJ (HRq.out.set HI.out (j:=6) (by decide) _);have HGd:=hJ (HGq2.out.other (a:=⟨gb,k * 7+6,none⟩) (u:=.string ((⟨#[65]⟩:Str)++dd)) (by show gb≠w1.heap.size;omega));have HKd:Hid (∀ q,q<wr.heap.size→q≠w1.heap.size→q≠gb→(wq.setCell ⟨gb,k * 7+6,none⟩ (.string ((⟨#[65]⟩:Str)++dd))).heap[q]? =wr.heap[q]?):=hJ (fun q hq hne hg=>(kAA (fun e=>hg e.symm)).trans (HKq.out q hq hne));have HBd:Hid (Below w.heap.size w (wq.setCell ⟨gb,k * 7+6,none⟩ (.string ((⟨#[65]⟩:Str)++dd)))):=hJ (HBw.out.setCell (by show w.heap.size≤gb;omega) _);have HZd:Hid (w2.heap.size≤(wq.setCell ⟨gb,k * 7+6,none⟩ (.string ((⟨#[65]⟩:Str)++dd))).heap.size):=hJ (by simp;omega)
        have HRY:Hid (RBnd.rd (fun q=>w2.heap.size≤q∧q≠gb) (wq.setCell ⟨gb,k * 7+6,none⟩ (.string ((⟨#[65]⟩:Str)++dd))) [.int .i64 3,.string nv,.int .i64 0,.slice ta 0 tc,.string ⟨#[]⟩,.slice da 0 dc,.string ((⟨#[65]⟩:Str)++dd)] y):=hJ (by
         rw [← HYe.out,HR1'.out.1,← HNm.out];exact ⟨_,_,rfl,⟨ta,tc,rfl,Sl.zero HTa.out.1 HTa.out.2⟩,⟨da,dc,rfl,Sl.zero HDa.out.1 HDa.out.2⟩⟩)
        have HLz:Hid (Lies RBnd (fun q=>w2.heap.size≤q) (wq.setCell ⟨gb,k * 7+6,none⟩ (.string ((⟨#[65]⟩:Str)++dd))) gb (css.set k [.int .i64 3,.string nv,.int .i64 0,.slice ta 0 tc,.string ⟨#[]⟩,.slice da 0 dc,.string ((⟨#[65]⟩:Str)++dd)]) (kFN L (k+1))):=hJ (by
         rw [HNext.out];exact (HL.out.frame (w':=(wq.setCell ⟨gb,k * 7+6,none⟩ (.string ((⟨#[65]⟩:Str)++dd)))) (fun q hq hne hlt=>HKd.out q hlt (by have:w2.heap.size≤q:=hq;omega) hne)).set k HRY.out)
        have HOz:Hid (Own RBnd 47 (fun q=>w2.heap.size≤q) (wq.setCell ⟨gb,k * 7+6,none⟩ (.string ((⟨#[65]⟩:Str)++dd))) (w1.heap.size+1) (.slice (some ⟨gb,0,none⟩) n c5) (kFN L (k+1))):=hJ (by
         have h:=HRd.out.own HLz.out hgb (by rw [kDI (by rw [HN.out];omega),HN.out];exact hlc) hcm (by rw [List.length_set];exact HSl.out)
         rwa [kDI (by rw [HN.out];omega),HN.out] at h)
        have HGz:Hid (Bx (wq.setCell ⟨gb,k * 7+6,none⟩ (.string ((⟨#[65]⟩:Str)++dd))) w1.heap.size 100 (cntV L (k+1))):=hJ (by rw [HR1'.out.2,HCV0.out];exact HGd.out);have HKz:Hid (∀ q,q<w2.heap.size→q≠w1.heap.size→(Value.slice (some ⟨gb,0,none⟩) n c5).ownBlock≠some q→(wq.setCell ⟨gb,k * 7+6,none⟩ (.string ((⟨#[65]⟩:Str)++dd))).heap[q]? =w2.heap[q]?):=hJ (fun q hq hne ho=>(HKd.out q (by omega) hne (HOl.out q hq ho)).trans (HK.out q hq hne ho))
        go_wp2_with fail
        go_roundw
        case rel=>exact ⟨k+1,by omega,by go_num,HOz,HGz,HKz,HBd.out,HZd.out⟩
        case measure=>simp [intOf];omega
    · obtain rfl:k=n:=by omega
      have HAll:kFN L k=ren L:=by rw [← HN.out];exact renUp_all L
      have hO:=HO.out;rw [HAll] at hO;obtain ⟨_,_,hv,hsl⟩:=hO.sl;rw [Value.slice.injEq] at hv;obtain ⟨rfl,hkr,rfl⟩:=hv;have HCw:=hJ (HCS.out wr hB _ a5 _ c5 hsl);rw [← hkr] at HCw;have hne1:(Value.slice a5 k c5).ownBlock≠some w.heap.size:=HO.out.ne (by omega);have hne2:(Value.slice a5 k c5).ownBlock≠some (w.heap.size+1):=HO.out.ne (by omega);have HAr:Hid (Bx wr _ _ _):=hJ ((HK.out w.heap.size (by omega) (by omega) hne1).trans HA2.out);have HRr:Hid (Bx wr _ _ _):=hJ ((HK.out (w.heap.size+1) (by omega) (by omega) hne2).trans HR2.out);have y0:=HAr.out.cell 0 _ rfl;have y1:=HAr.out.cell 1 _ rfl;have y2:=HAr.out.cell 2 _ rfl;have y3:=HAr.out.cell 3 _ rfl;have y4:=HAr.out.cell 4 _ rfl;have HBr:=hJ hB;have hzr:w.heap.size+2≤wr.heap.size:=by omega
      clear HAll hO hsl hkr hne1 hne2 HO HG HK hB HO2 HG2 HCS HA2 HR2 HB2;generalize hbb:ren L=b at *;clear hbb;cases hok:kB7 b s with
      | false =>
        have HBd:=hJ (HBad.out hok);rw [(sch_no hok).2,(sch_no hok).1] at HCw;clear hok HGood HBad
        go_wp2_with fail
        refine HCw.out.mono ?_;rintro e w3 ⟨⟨ds,rfl,hos⟩,hb3⟩;obtain ⟨base,p,t,q,hb0,rfl,⟨ap3,cp3,rfl,_⟩,⟨at3,ct3,rfl,_⟩,hq⟩:=hos;obtain ⟨aq3,cq3,rfl,_⟩:=hq.sl;obtain ⟨w7,hfold7⟩:∃ q,w3.alloc (.cells #[.slice ap3 kDT.params.length cp3,.string kDT.result.elem,.string kDT.result.shape.row,.slice at3 kDT.result.shape.dims.length ct3,.slice aq3 kDT.wh.length cq3] 29)=q:=⟨_,rfl⟩
        have HRw:=hJ ((HRr.out.below hb3 HRr.out.lt).alloc (.cells #[.slice ap3 kDT.params.length cp3,.string kDT.result.elem,.string kDT.result.shape.row,.slice at3 kDT.result.shape.dims.length ct3,.slice aq3 kDT.wh.length cq3] 29));rw [hfold7] at HRw;have HWw:Hid (Below w.heap.size w w7):=hJ (by rw [← hfold7];exact (HBr.out.trans (hb3.mono HBr.out.size)).alloc (by have:=hb3.size;omega) _);clear hq;have v0:=HRw.out.cell 0 _ rfl;have v1:=HRw.out.cell 1 _ rfl;have v2:=HRw.out.cell 2 _ rfl;have v3:=HRw.out.cell 3 _ rfl;have v4:=HRw.out.cell 4 _ rfl;have u0:=HRw.out.fz 0;have u1:=HRw.out.fz 1;have u2:=HRw.out.fz 2;have u3:=HRw.out.fz 3;have u4:=HRw.out.fz 4;have hlr:=HRw.out.lt;have HX60:=hJ (((((HRw.out.set 0 (.slice none 0 0)).set 1 (.string ⟨#[]⟩)).set 2 (.string ⟨#[]⟩)).set 3 (.slice none 0 0)).set 4 (.slice none 0 0));have s0:=HX60.out.cell 0 _ rfl;have s1:=HX60.out.cell 1 _ rfl;have s2:=HX60.out.cell 2 _ rfl;have s3:=HX60.out.cell 3 _ rfl;have s4:=HX60.out.cell 4 _ rfl
        go_wp2_with fail
        refine bodyPost_ret (v:=.tuple #[.agg #[.slice none 0 0,.string ⟨#[]⟩,.string ⟨#[]⟩,.slice none 0 0,.slice none 0 0],.int .i64 3]) (by simp [results,results38,go_sem,s0,s1,s2,s3,s4,hlr]) rfl ?_;refine ⟨⟨[.slice none 0 0,.string ⟨#[]⟩,.string ⟨#[]⟩,.slice none 0 0,.slice none 0 0],by rw [HBd.out.1],by rw [HBd.out.2];exact (kEL.no _ _).rd⟩,?_⟩
        repeat (first | exact HWw.out | refine Below.setCell ?_ (by show _≤w.heap.size+1;omega) _)
      | true =>
        obtain ⟨hg0,hg1⟩:=HGood.out hok;have HG0:=hJ hg0;have HG1:=hJ hg1;have HE0:kCE b s=0:=by unfold kCE;rw [hok];rfl
        have HS1:kDV b s=kEW b s:=by unfold kDV;rw [hok];rfl
        rw [HE0,HS1] at HCw;have HSw:Hid ((kEW b s).wh=s.wh.map (kAD b)):=hJ rfl;have HSp:Hid (can s=⟨(kEW b s).params,(kEW b s).result,tidy (kEW b s).wh⟩):=hJ hg1;have hwl12:(kEW b s).wh.length≤12:=by rw [HSw.out,List.length_map];exact HWL.out
        clear hok HGood HBad hg0 hg1 HE0 HS1 HG1 HSw;generalize kEW b s=s' at *
        go_wp2_with fail
        refine HCw.out.mono ?_;rintro e w3 ⟨⟨ds,rfl,hos⟩,hb3⟩;obtain ⟨base,p,t,q,hb0,rfl,⟨ap3,cp3,rfl,hp3⟩,⟨at3,ct3,rfl,ht3⟩,hq⟩:=hos;obtain ⟨aq3,cq3,rfl,_⟩:=hq.sl;obtain ⟨w7,hfold7⟩:∃ q,w3.alloc (.cells #[.slice ap3 s'.params.length cp3,.string s'.result.elem,.string s'.result.shape.row,.slice at3 s'.result.shape.dims.length ct3,.slice aq3 s'.wh.length cq3] 29)=q:=⟨_,rfl⟩
        have HB7:Hid (Below w3.heap.size w3 w7):=hJ (by rw [← hfold7];exact (Below.refl _ _).alloc (Nat.le_refl _) _);have HP7:Hid (Bx w7 w3.heap.size 29 [.slice ap3 s'.params.length cp3,.string s'.result.elem,.string s'.result.shape.row,.slice at3 s'.result.shape.dims.length ct3,.slice aq3 s'.wh.length cq3]):=hJ (by rw [← hfold7];exact Bx.fresh _ _ _);have hz3:=hb3.size;have hz7:w3.heap.size<w7.heap.size:=HP7.out.lt;have HR7:=hJ ((HRr.out.below hb3 HRr.out.lt).below HB7.out (by have:=HRr.out.lt;omega));have HW7:Hid (Below w.heap.size w w7):=hJ ((HBr.out.trans (hb3.mono HBr.out.size)).trans (HB7.out.mono (by omega)));have HOB:Hid (∀ q,(Value.slice aq3 s'.wh.length cq3).ownBlock=some q→base≤q∧q<w3.heap.size):=hJ (fun q h=>hq.block h);have HOq:Hid (Own RLin 45 (fun k=>wr.heap.size≤k∧k≠w3.heap.size) w7 wr.heap.size (.slice aq3 s'.wh.length cq3) s'.wh):=hJ ((((hq.lower hb0).mono (S':=fun k=>wr.heap.size≤k∧k≠w3.heap.size) (fun k hk hlt=>⟨by have hk:base≤k:=hk;omega,by omega⟩))).below HB7.out);have HPs:=hJ hp3;have HTs:=hJ ht3;have HDel:=hJ (delete_Lin HOq.out (by omega) (by omega) 91 (kBF func91 rfl rfl) dropL (fun S' W x cs hr=>canonical_1 hr));have p4:=HP7.out.cell 4 _ rfl;clear hp3 ht3 hq HCw
        go_wp2_with fail
        refine HDel.out.mono ?_;rintro e w8 ⟨⟨v1,rfl,hown8,hk8⟩,hb8⟩;clear HDel;have hz8:w7.heap.size≤w8.heap.size:=hb8.size;have HN8:Hid (v1.ownBlock≠some w3.heap.size):=hJ (fun e=>(hk8.own _ e).elim (fun e=>by have:=(HOB.out _ e).2;omega) (fun e=>by omega));have HK8:Hid (∀ q,q<w7.heap.size→q≠w3.heap.size→(Value.slice aq3 s'.wh.length cq3).ownBlock≠some q→w8.heap[q]? =w7.heap[q]?):=hJ (fun q hq _ hne=>hk8.block q hq hne);have HV8:Hid (∀ q,v1.ownBlock=some q→(Value.slice aq3 s'.wh.length cq3).ownBlock=some q∨w7.heap.size≤q):=hJ hk8.own;have HP8:Hid (Bx w8 w3.heap.size _ _):=hJ ((hk8.block w3.heap.size hz7 (fun e=>by have:=(HOB.out _ e).2;omega)).trans HP7.out);have HB8:=hJ hb8;have hl8:(s'.wh.filter (fun x=> !dropL x)).length≤12:=Nat.le_trans (List.length_filter_le _ _) hwl12;obtain ⟨a8,m8,c8,rfl⟩:=hown8.shape;have HO8:=hJ hown8;clear hown8 hk8 hb8;have q4:=HP8.out.cell 4 _ rfl;have f4:=HP8.out.fz 4;obtain ⟨w9,hfold9⟩:∃ q,w8.setCell ⟨w3.heap.size,4,none⟩ (.slice a8 m8 c8)=q:=⟨_,rfl⟩
        have HP9:Hid (Bx w9 w3.heap.size 29 [.slice ap3 s'.params.length cp3,.string s'.result.elem,.string s'.result.shape.row,.slice at3 s'.result.shape.dims.length ct3,.slice a8 m8 c8]):=hJ (by rw [← hfold9];exact HP8.out.set 4 _);have HH9:Hid (∀ q,q≠w3.heap.size→w9.heap[q]? =w8.heap[q]?):=hJ (fun q hq=>by rw [← hfold9];exact kAA (fun e=>hq e.symm));have hz9:w9.heap.size=w8.heap.size:=by rw [← hfold9];simp
        have HO9:Hid (Own RLin 45 (fun k=>wr.heap.size≤k∧k≠w3.heap.size) w9 wr.heap.size (.slice a8 m8 c8) (s'.wh.filter (fun x=> !dropL x))):=hJ (HO8.out.frame (fun k hk h=>HH9.out k (by rcases h with h | h;exact h.2;exact fun e=>HN8.out (by rw [← e];exact h))) (by omega));have HB9:Hid (Below wr.heap.size w7 w9):=hJ (by rw [← hfold9];exact HB8.out.setCell (by show wr.heap.size≤w3.heap.size;omega) _);have HSrt:=hJ (sortFunc_Lin HO9.out (by omega) hl8 94 (kBF func94 rfl rfl) kB1 totLin.pre (fun S' T' W x y cs ds h1 h2=>linear_Compare h1 h2));have r4:=HP9.out.cell 4 _ rfl;have HZ9:=hJ hz9;clear hz9
        go_wp2_with fail
        refine HSrt.out.mono ?_;rintro e w10 ⟨⟨rfl,m,hperm,hle,hown10,hk10⟩,hb10⟩;clear HSrt;have hz10:w8.heap.size≤w10.heap.size:=by have:=hb10.size;rw [HZ9.out] at this;exact this
        have HP10:Hid (Bx w10 w3.heap.size _ _):=hJ ((hk10.block w3.heap.size HP9.out.lt HN8.out).trans HP9.out);have HK10:Hid (∀ q,q<w7.heap.size→q≠w3.heap.size→(Value.slice aq3 s'.wh.length cq3).ownBlock≠some q→w10.heap[q]? =w7.heap[q]?):=hJ (fun q hq hn ho=>(hk10.block q (by rw [HZ9.out];omega) (fun e=>(HV8.out q e).elim ho (fun e=>by omega))).trans ((HH9.out q hn).trans (HK8.out q hq hn ho)));have HB10:Hid (Below wr.heap.size w7 w10):=hJ (HB9.out.trans hb10);have hl10:m.length≤12:=by rw [hperm.length_eq];exact hl8
        have HTd:Hid (kept (newB kCK m) m m.length=tidy s'.wh):=hJ (by
         rw [← compG_kept kFF];exact comp_tidy totLin kFF dropL s'.wh m hle (fun z=>hperm.mem_iff))
        have HCpt:=hJ (compact_Lin hown10 (by omega) (by omega) 80 (kBF func80 rfl rfl) kCK (fun S' T' W x y cs ds h1 h2=>types_same h1 h2));rw [HTd.out] at HCpt;have t4:=HP10.out.cell 4 _ rfl;clear hperm hle hown10 hk10 hb10 hl8 hl10 HTd
        go_wp2_with fail
        refine HCpt.out.mono ?_;rintro e w11 ⟨⟨v2,rfl,hown11,hk11⟩,hb11⟩;clear HCpt;have hz11:w10.heap.size≤w11.heap.size:=hb11.size;obtain ⟨a11,c11,rfl,hs11⟩:=hown11.sl;have HP11:Hid (Bx w11 w3.heap.size _ _):=hJ ((hk11.block w3.heap.size HP10.out.lt HN8.out).trans HP10.out);have HK11:Hid (∀ q,q<w7.heap.size→q≠w3.heap.size→(Value.slice aq3 s'.wh.length cq3).ownBlock≠some q→w11.heap[q]? =w7.heap[q]?):=hJ (fun q hq hn ho=>(hk11.block q (by omega) (fun e=>(HV8.out q e).elim ho (fun e=>by omega))).trans (HK10.out q hq hn ho));have HN11:Hid ((Value.slice a11 (tidy s'.wh).length c11).ownBlock≠some w3.heap.size):=hJ (fun e=>(hk11.own _ e).elim HN8.out (fun e=>by omega));have HO11:=hJ hown11;have HB11:Hid (Below wr.heap.size w7 w11):=hJ (HB10.out.trans hb11);clear hown11 hk11 hb11 hs11;have u4:=HP11.out.cell 4 _ rfl;have g4:=HP11.out.fz 4;have HP12:=hJ (HP11.out.set 4 (.slice a11 (tidy s'.wh).length c11));have p0:=HP12.out.cell 0 _ rfl;have p1:=HP12.out.cell 1 _ rfl;have p2:=HP12.out.cell 2 _ rfl;have p3:=HP12.out.cell 3 _ rfl;have p4':=HP12.out.cell 4 _ rfl;have HRw:Hid (Bx (w11.setCell ⟨w3.heap.size,4,none⟩ (.slice a11 (tidy s'.wh).length c11)) (w.heap.size+1) 29 _):=hJ ((HR7.out.below HB11.out (by omega)).other (by show w3.heap.size≠w.heap.size+1;omega));have v0:=HRw.out.cell 0 _ rfl;have v1:=HRw.out.cell 1 _ rfl;have v2:=HRw.out.cell 2 _ rfl;have v3:=HRw.out.cell 3 _ rfl;have v4:=HRw.out.cell 4 _ rfl;have u0:=HRw.out.fz 0;have u1:=HRw.out.fz 1;have u2:=HRw.out.fz 2;have u3:=HRw.out.fz 3;have u4':=HRw.out.fz 4;have hlr:=HRw.out.lt;have HX60:=hJ (((((HRw.out.set 0 (.slice ap3 s'.params.length cp3)).set 1 (.string s'.result.elem)).set 2 (.string s'.result.shape.row)).set 3 (.slice at3 s'.result.shape.dims.length ct3)).set 4 (.slice a11 (tidy s'.wh).length c11));have s0:=HX60.out.cell 0 _ rfl;have s1:=HX60.out.cell 1 _ rfl;have s2:=HX60.out.cell 2 _ rfl;have s3:=HX60.out.cell 3 _ rfl;have s4:=HX60.out.cell 4 _ rfl
        go_wp2_with fail
        refine bodyPost_ret (v:=.tuple #[.agg #[.slice ap3 s'.params.length cp3,.string s'.result.elem,.string s'.result.shape.row,.slice at3 s'.result.shape.dims.length ct3,.slice a11 (tidy s'.wh).length c11],.int .i64 0]) (by simp [results,results38,go_sem,s0,s1,s2,s3,s4,hlr]) rfl ?_;have hF:∀ q,q≠w3.heap.size→q≠w.heap.size+1→((((((w11.setCell ⟨w3.heap.size,4,none⟩ (.slice a11 (tidy s'.wh).length c11)).setCell ⟨w.heap.size+1,0,none⟩ (.slice ap3 s'.params.length cp3)).setCell ⟨w.heap.size+1,1,none⟩ (.string s'.result.elem)).setCell ⟨w.heap.size+1,2,none⟩ (.string s'.result.shape.row)).setCell ⟨w.heap.size+1,3,none⟩ (.slice at3 s'.result.shape.dims.length ct3)).setCell ⟨w.heap.size+1,4,none⟩ (.slice a11 (tidy s'.wh).length c11)).heap[q]? =w11.heap[q]? :=fun q h1 h2=>(kAA (fun e=>h2 e.symm)).trans ((kAA (fun e=>h2 e.symm)).trans ((kAA (fun e=>h2 e.symm)).trans ((kAA (fun e=>h2 e.symm)).trans ((kAA (fun e=>h2 e.symm)).trans (kAA (fun e=>h1 e.symm))))))
        have hFp:∀ q,(wr.heap.size≤q∧q<base)→q<w3.heap.size→((((((w11.setCell ⟨w3.heap.size,4,none⟩ (.slice a11 (tidy s'.wh).length c11)).setCell ⟨w.heap.size+1,0,none⟩ (.slice ap3 s'.params.length cp3)).setCell ⟨w.heap.size+1,1,none⟩ (.string s'.result.elem)).setCell ⟨w.heap.size+1,2,none⟩ (.string s'.result.shape.row)).setCell ⟨w.heap.size+1,3,none⟩ (.slice at3 s'.result.shape.dims.length ct3)).setCell ⟨w.heap.size+1,4,none⟩ (.slice a11 (tidy s'.wh).length c11)).heap[q]? =w3.heap[q]? :=fun q h1 h2=>(hF q (by omega) (by omega)).trans ((HK11.out q (by omega) (by omega) (fun e=>by have:=(HOB.out q e).1;omega)).trans (HB7.out.block q h2))
        refine ⟨⟨[.slice ap3 s'.params.length cp3,.string s'.result.elem,.string s'.result.shape.row,.slice at3 s'.result.shape.dims.length ct3,.slice a11 (tidy s'.wh).length c11],by rw [HG0.out],?_⟩,?_⟩
        · rw [HSp.out]
          obtain ⟨a12,c12,e12,hs12⟩:=HO11.out.sl;rw [Value.slice.injEq] at e12;obtain ⟨rfl,-,rfl⟩:=e12;refine ⟨_,_,_,rfl,⟨ap3,cp3,rfl,(HPs.out.frame hFp).mono (fun k hk _=>by omega)⟩,⟨at3,ct3,rfl,(HTs.out.frame hFp).mono (fun k hk _=>by omega)⟩,⟨a11,c11,rfl,?_⟩⟩;obtain ⟨a13,c13,e13,hs13,_⟩:=HO11.out.slAt;rw [Value.slice.injEq] at e13;obtain ⟨rfl,-,rfl⟩:=e13;have hA:∀ k,At a11 k→wr.heap.size≤k∧k≠w3.heap.size:=fun k hk=>⟨HO11.out.base_le k (kHE hk),fun e=>HN11.out (by rw [← e];exact kHE hk)⟩
          exact (hs13.frame (fun k hk _=>hF k (by rcases hk with hk | hk;exact hk.2;exact (hA k hk).2) (by rcases hk with hk | hk;exact (by have:=hk.1;omega);exact (by have:=(hA k hk).1;omega)))).mono (fun k hk _=>by rcases hk with hk | hk;exact (by have:=hk.1;omega);exact (by have:=(hA k hk).1;omega))
        · have hB':=HW7.out.trans (HB11.out.mono (B':=w.heap.size) (by omega))
          exact (((((hB'.setCell (by show w.heap.size≤w3.heap.size;omega) _).setCell (by show w.heap.size≤w.heap.size+1;omega) _).setCell (by show w.heap.size≤w.heap.size+1;omega) _).setCell (by show w.heap.size≤w.heap.size+1;omega) _).setCell (by show w.heap.size≤w.heap.size+1;omega) _).setCell (by show w.heap.size≤w.heap.size+1;omega) _
theorem sch_open {S:Blk} {w:World} {cs:List Value} {x:Sch} (h:RSch.rd S w cs x):∃ p c t d q e,cs=[.slice p x.params.length c,.string x.result.elem,.string x.result.shape.row,.slice t x.result.shape.dims.length d,.slice q x.wh.length e]:=by
 obtain ⟨_,_,_,rfl,⟨p1,c1,rfl,hp1⟩,⟨t1,d1,rfl,ht1⟩,⟨q1,e1,rfl,hq1⟩⟩:=h;exact ⟨p1,c1,t1,d1,q1,e1,rfl⟩
theorem parse_ex {s:Str} {x:Sch} (hs:s.size≤300) (hr:readS s=some x) (w:World) (E:EnvM w) :
 Calls Tryz.prog 24 #[.string s] w fun e w'=>(∃ p c t d q e2,e= .returned (.tuple #[.agg #[.slice p x.params.length c,.string x.result.elem,.string x.result.shape.row,.slice t x.result.shape.dims.length d,.slice q x.wh.length e2],.int .i64 0])∧RSch.rd All w' [.slice p x.params.length c,.string x.result.elem,.string x.result.shape.row,.slice t x.result.shape.dims.length d,.slice q x.wh.length e2] x)∧Below w.heap.size w w':=by
 refine (types_ParseScheme s (small_SOk hs) w E).mono ?_;rintro e w' ⟨⟨ds,rfl,h⟩,hb⟩;rw [hr] at h ⊢;obtain ⟨p,c,t,d,q,e2,rfl⟩:=sch_open h;exact ⟨⟨p,c,t,d,q,e2,rfl,RSch.mono h (fun _ _ _=>trivial)⟩,hb⟩
theorem canon_ex {S:Blk} {cs:List Value} (w:World) (h:RSch.rd S w cs as1) (E:Env w) :
 Calls Tryz.prog 38 #[.agg cs.toArray] w fun e w'=>(∃ p c t d q e2,e= .returned (.tuple #[.agg #[.slice p as2.params.length c,.string as2.result.elem,.string as2.result.shape.row,.slice t as2.result.shape.dims.length d,.slice q as2.wh.length e2],.int .i64 0])∧RSch.rd All w' [.slice p as2.params.length c,.string as2.result.elem,.string as2.result.shape.row,.slice t as2.result.shape.dims.length d,.slice q as2.wh.length e2] as2)∧Below w.heap.size w w':=by
 refine (types_Canonical h (sch_sz av1) (fun _=>by decide) E).mono ?_;rintro e w' ⟨⟨ds,rfl,h⟩,hb⟩;rw [ac1.1] at h;rw [ac1.2];obtain ⟨p,c,t,d,q,e2,rfl⟩:=sch_open h;exact ⟨⟨p,c,t,d,q,e2,rfl,RSch.mono h (fun _ _ _=>trivial)⟩,hb⟩
theorem law12_awake (w:World) (E:EnvM w):Calls Tryz.prog 7 #[] w fun e w'=>e= .returned (.bool true)∧Below w.heap.size w w':=by
 have HE:=hJ (fun (W:World) (hW:Below w.heap.size w W)=>E.below hW);have HP1:=hJ (fun (W:World) (hW:Below w.heap.size w W)=>parse_ex (s:=ax1) (by decide) ar1 W (E.below hW));have HP3:=hJ (fun (W:World) (hW:Below w.heap.size w W)=>parse_ex (s:=ax3) (by decide) ar3 W (E.below hW));have HP4:=hJ (fun (W:World) (hW:Below w.heap.size w W)=>parse_ex (s:=ax4) (by decide) ar4 W (E.below hW));clear E;go_enter func7,ntmps7
 go_wp2_with fail
 refine (HP1.out w (Below.refl _ _)).mono ?_;rintro e w1 ⟨⟨p1,c1,t1,d1,q1,e1,rfl,h1⟩,hb1⟩;have HW1:=hJ hb1;clear hb1;have HR1:=hJ h1;clear h1;obtain ⟨HB1,hx1,hz1⟩:=box1 w1 29 [.slice p1 as1.params.length c1,.string as1.result.elem,.string as1.result.shape.row,.slice t1 as1.result.shape.dims.length d1,.slice q1 as1.wh.length e1];have HX1:Hid (Bx _ _ _ _):=hJ hx1;have HV1:=hJ (HW1.out.trans (HB1.out.mono HW1.out.size));have HS1:=hJ (RSch.below HR1.out HB1.out);clear hx1 HR1 HW1;have x0:=HX1.out.cell 0 _ rfl;have x1:=HX1.out.cell 1 _ rfl;have x2:=HX1.out.cell 2 _ rfl;have x3:=HX1.out.cell 3 _ rfl;have x4:=HX1.out.cell 4 _ rfl;have HC:=hJ (canon_ex _ HS1.out (HE.out _ HV1.out).env)
 go_wp2_with fail
 refine HC.out.mono ?_;rintro e w2 ⟨⟨p2,c2,t2,d2,q2,e2,rfl,h2⟩,hb2⟩;have HW2:=hJ (HV1.out.trans (hb2.mono HV1.out.size));have HX12:=hJ (HX1.out.below hb2 HX1.out.lt);have HS12:=hJ (RSch.below HS1.out hb2);have hl1:=hb2.size;rw [hz1] at hl1;clear hb2 x0 x1 x2 x3 x4 HX1 HS1 HC hz1 HB1 HV1;have HR2:=hJ h2;clear h2;obtain ⟨HB2,hx2,hz2⟩:=box1 w2 29 [.slice p2 as2.params.length c2,.string as2.result.elem,.string as2.result.shape.row,.slice t2 as2.result.shape.dims.length d2,.slice q2 as2.wh.length e2];have HX2:Hid (Bx _ _ _ _):=hJ hx2;have HV2:=hJ (HW2.out.trans (HB2.out.mono HW2.out.size));have HS2:=hJ (RSch.below HR2.out HB2.out);clear hx2 HR2 HW2;have x0:=HX2.out.cell 0 _ rfl;have x1:=HX2.out.cell 1 _ rfl;have x2:=HX2.out.cell 2 _ rfl;have x3:=HX2.out.cell 3 _ rfl;have x4:=HX2.out.cell 4 _ rfl;have HP2:=hJ (kE2 HS2.out (sch_sz av2) (HE.out _ HV2.out).env);rw [ap2,av2,show ax2=((⟨#[40,91,114,49,46,46,93,105,110,116,44,32,91,110,49,93,65,49,41,32,45,62,32,91,110,49,93,65,49,32,119,104,101,114,101,32,110,49,45,49,44,32,110,49,43,110,50]⟩:Str)) from rfl] at HP2
 go_wp2_with fail
 refine HP2.out.mono ?_;rintro e w3 ⟨rfl,hb3⟩;have hl2:=hb3.size;rw [hz2] at hl2;have HX13:=hJ (HX12.out.below (HB2.out.trans (hb3.mono HB2.out.size)) (by omega));have HS13:=hJ (RSch.below (RSch.below HS12.out HB2.out) hb3);have HW3:=hJ (HV2.out.trans (hb3.mono HV2.out.size));clear hb3 x0 x1 x2 x3 x4 HX2 HS2 HP2 hz2 HB2 HV2 HX12 HS12
 go_wp2_with fail
 refine (HP3.out w3 HW3.out).mono ?_;rintro e w4 ⟨⟨p4,c4,t4,d4,q4,e4,rfl,h4⟩,hb4⟩;have HW4:=hJ (HW3.out.trans (hb4.mono HW3.out.size));have HX14:=hJ (HX13.out.below hb4 (by omega));have HS14:=hJ (RSch.below HS13.out hb4);have hl4:=hb4.size;clear hb4 HX13 HS13 HW3;have HR4:=hJ h4;clear h4;obtain ⟨HB4,hx4,hz4⟩:=box1 w4 29 [.slice p4 as3.params.length c4,.string as3.result.elem,.string as3.result.shape.row,.slice t4 as3.result.shape.dims.length d4,.slice q4 as3.wh.length e4];have HX4:Hid (Bx _ _ _ _):=hJ hx4;have HV4:=hJ (HW4.out.trans (HB4.out.mono HW4.out.size));have HS4:=hJ (RSch.below HR4.out HB4.out);clear hx4 HR4 HW4
 go_wp2_with fail
 refine (HP4.out _ HV4.out).mono ?_;rintro e w5 ⟨⟨p5,c5,t5,d5,q5,e5,rfl,h5⟩,hb5⟩;have HW5:=hJ (HV4.out.trans (hb5.mono HV4.out.size));have hl5:=hb5.size;rw [hz4] at hl5;have HX15:=hJ (HX14.out.below (HB4.out.trans (hb5.mono HB4.out.size)) (by omega));have HS15:=hJ (RSch.below (RSch.below HS14.out HB4.out) hb5);have HX45:=hJ (HX4.out.below hb5 HX4.out.lt);have HS45:=hJ (RSch.below HS4.out hb5);clear hb5 HX14 HS14 HX4 HS4 HV4 HB4 hz4;have HR5:=hJ h5;clear h5;obtain ⟨HB5,hx5,hz5⟩:=box1 w5 29 [.slice p5 as4.params.length c5,.string as4.result.elem,.string as4.result.shape.row,.slice t5 as4.result.shape.dims.length d5,.slice q5 as4.wh.length e5];have HX5:Hid (Bx _ _ _ _):=hJ hx5;have HV5:=hJ (HW5.out.trans (HB5.out.mono HW5.out.size));have HS5:=hJ (RSch.below HR5.out HB5.out);clear hx5 HR5 HW5;have HX16:=hJ (HX15.out.below HB5.out (by omega));have HS16:=hJ (RSch.below HS15.out HB5.out);have HX46:=hJ (HX45.out.below HB5.out (by omega));have HS46:=hJ (RSch.below HS45.out HB5.out);clear HX15 HS15 HX45 HS45;have y0:=HX46.out.cell 0 _ rfl;have y1:=HX46.out.cell 1 _ rfl;have y2:=HX46.out.cell 2 _ rfl;have y3:=HX46.out.cell 3 _ rfl;have y4:=HX46.out.cell 4 _ rfl;have z0:=HX5.out.cell 0 _ rfl;have z1:=HX5.out.cell 1 _ rfl;have z2:=HX5.out.cell 2 _ rfl;have z3:=HX5.out.cell 3 _ rfl;have z4:=HX5.out.cell 4 _ rfl;have HI:=hJ (inst_ex HS46.out HS5.out (HE.out _ HV5.out).env)
 go_wp2_with fail
 refine HI.out.mono ?_;rintro e w6 ⟨⟨ia,ic,rfl,hi⟩,hb6⟩;have HW6:=hJ (HV5.out.trans (hb6.mono HV5.out.size));have hl6:=hb6.size;rw [hz5] at hl6;have HX17:=hJ (HX16.out.below hb6 (by rw [hz5];omega));have HS17:=hJ (RSch.below HS16.out hb6);have HI6:=hJ hi;clear hi hb6 y0 y1 y2 y3 y4 z0 z1 z2 z3 z4 HI HX16 HS16 HX46 HS46 HX5 HS5 HV5 HB5;obtain ⟨ib,io,rfl,hib,_⟩:=HI6.out.form 0 (by decide);obtain ⟨_,_,_,_,_,_,i2,_⟩:=HI6.out.bnd 0 (by decide);obtain ⟨_,_,_,_,_,_,_,_,_,_,j6⟩:=HI6.out.bnd 1 (by decide);have k2:w6.cell? ⟨ib,io+2,none⟩=some (.int .i64 3):=i2;have k6:w6.cell? ⟨ib,io+7+6,none⟩=some (.string ⟨#[105,110,116]⟩):=j6;have k7:w6.cell? ⟨ib,io+13,none⟩=some (.string ⟨#[105,110,116]⟩):=j6;clear i2 j6;have x0:=HX17.out.cell 0 _ rfl;have x1:=HX17.out.cell 1 _ rfl;have x2:=HX17.out.cell 2 _ rfl;have x3:=HX17.out.cell 3 _ rfl;have x4:=HX17.out.cell 4 _ rfl;have HVs:=hJ (kBA HS17.out (sch_sz av1) (HE.out _ HW6.out).env);rw [av1] at HVs
 go_wp2_with fail
 refine HVs.out.mono ?_;rintro e w7 ⟨rfl,hb7⟩;have HW7:=hJ (HW6.out.trans (hb7.mono HW6.out.size));clear hb7
 go_wp2_with fail
 go_ret;exact ⟨rfl,HW7.out⟩
theorem allT_lt {s:Sch} {k:Nat} (h:k<s.params.length):(allT s).getD k default=s.params.getD k default:=by
 unfold allT;rw [List.getD_eq_getElem?_getD,List.getD_eq_getElem?_getD,List.getElem?_append_left h]
theorem allT_last (s:Sch):(allT s).getD s.params.length default=s.result:=by
 unfold allT;rw [List.getD_eq_getElem?_getD,List.getElem?_append_right (Nat.le_refl _)];simp
theorem sch_badA {b:List Bnd} {s:Sch} {i:Nat} (hi:i<s.params.length+1) (h:kAX b ((allT s).getD i default).shape=false):kDV b s=kDT∧kCE b s=3:=by
 by_cases h1:i<s.params.length
 · rw [allT_lt h1] at h;exact sch_badP h1 h
 · obtain rfl:i=s.params.length:=by omega
   rw [allT_last] at h;exact sch_badR h
theorem allT_validAt {s:Sch} (hv:kAM s=true) {i:Nat} (hi:i<s.params.length+1):kAE ((allT s).getD i default)=true:=by
 have hp:=kAV hv;by_cases h1:i<s.params.length
 · rw [allT_lt h1];exact hp.2.2.1 _ (kAJ h1)
 · obtain rfl:i=s.params.length:=by omega
   rw [allT_last];exact hp.2.2.2.1
theorem ref12_SubstScheme {S T:Blk} {s:Sch} {cs:List Value} {w:World} (h:RSch.rd S w cs s) (hv:kAM s=true) (b:List Bnd) (a:Option Addr) (nb cb:Nat) (hbs:Sl RBnd T w a nb cb b) (hb:kAO b=true) :
 Calls Tryz.prog 14 #[.agg cs.toArray,.slice a nb cb] w fun e w'=>(∃ ds,e= .returned (.tuple #[.agg ds.toArray,.int .i64 (kCE b s)])∧kEZ (fun k=>¬kCI b∧T k∧k<w.heap.size) w.heap.size w' ds (kDV b s))∧Below w.heap.size w w':=by
 generalize hX:(fun k=>¬kCI b∧T k∧k<w.heap.size:Blk)=X;have HXe:Hid (∀ q,(¬kCI b∧T q∧q<w.heap.size)→X q):=hJ (fun q h=>by rw [← hX];exact h);have HXw:Hid (∀ q,X q→q<w.heap.size):=hJ (fun q h=>by rw [← hX] at h;exact h.2.2);clear hX;have hpl12:s.params.length≤1000000:=by have:=(kAV hv).1;omega
 have HCV:Hid (∀ W,Below w.heap.size w W→Calls Tryz.prog 17 #[.agg cs.toArray] W fun e w'=>e= .returned (.bool true)∧Below W.heap.size W w') :=
  hJ (fun W hW=>hv ▸ kC8 (RSch.below h hW) (sch_sz hv) hpl12)
 have HCA:Hid (∀ W,Below w.heap.size w W→Calls Tryz.prog 41 #[.agg cs.toArray] W fun e w'=>(∃ v,e= .returned v∧Own RTyp 26 (fun k=>S k∧k<w.heap.size) w' W.heap.size v (allT s))∧Below W.heap.size W w') :=
  hJ (fun W hW=>kF6 (RSch.below (RSch.mono h (fun k hk hlt=>⟨hk,hlt⟩)) hW) hpl12)
 have HCB:Hid (∀ W,Below w.heap.size w W→Calls Tryz.prog 46 #[.slice a nb cb] W fun e w'=>e= .returned (.bool true)∧Below W.heap.size W w') :=
  hJ (fun W hW=>kDS b a nb cb W (hbs.below hW) hb)
 have HCT:=hJ (fun (S':Blk) (W:World) (hW:Below w.heap.size w W) (x:Typ) (ds:List Value) (hx:RTyp.rd S' W ds x) (hvx:kAE x=true)=>(ref12_Subst hx hvx b a nb cb ((hbs.mono (S':=fun k=>T k∧k<w.heap.size) (fun k h1 h2=>⟨h1,h2⟩)).below hW) hb).mono fun e w' ⟨⟨ds,he,hr⟩,hb⟩=>(⟨⟨ds,he,RTyp.mono hr (fun k hk _=>hk.elim (fun q=>.inl (HXe.out k ⟨q.1,q.2.1.1,q.2.1.2⟩)) .inr)⟩,hb⟩:(∃ ds:List Value,e=Ending.returned (.tuple #[.agg ds.toArray,.int .i64 (kCD b x.shape)])∧RTyp.rd (fun k=>X k∨W.heap.size≤k) w' ds (kG8 b x))∧Below W.heap.size W w'));have HCL:=hJ (fun (W:World) (hW:Below w.heap.size w W) (x:Lin) (ds:List Value) (hx:RLin.rd S W ds x) (hvx:kAB x=true)=>ref04_Subst hx hvx b a nb cb (hbs.below hW) (kCL hb));have HAV:=hJ (fun (i:Nat) (q:i<s.params.length+1)=>allT_validAt hv q);have HBadA:=hJ (fun (i:Nat) (q:i<s.params.length+1)=>sch_badA (b:=b) q);have HA1:=hJ (fun (i:Nat) (q:i<s.params.length)=>allT_lt q);have HA2':=hJ (allT_last s);have hAl:(allT s).length=s.params.length+1:=by unfold allT;rw [List.length_append];rfl
 obtain ⟨_,_,_,rfl,⟨ap,cp,rfl,hps⟩,⟨ar,cr,rfl,hrs⟩,⟨aq,cq,rfl,hqs⟩⟩:=h;have HPs:=hJ hps;have HRs:=hJ hrs;have HQs:=hJ hqs;have HV:=hJ (kAV hv);have HGood:=hJ (fun q1 q2 q3=>sch_good (b:=b) (s:=s) hv hb q1 q2 q3);have hpm:=hps.small;have hqm:=hqs.small;have hp12:=(kAV hv).1;have hq60:=(kAV hv).2.1;clear hps hrs hqs hbs hv hb;generalize hnn:s.params.length=n at *;generalize hmm:s.wh.length=m at *;have HN:=hJ hnn;have HM:=hJ hmm;clear hnn hmm;obtain ⟨B0,ya,yb,hW0⟩:=box2 w 29 [.slice ap n cp,.string s.result.elem,.string s.result.shape.row,.slice ar s.result.shape.dims.length cr,.slice aq m cq] 29 [.slice none 0 0,.string ⟨#[]⟩,.string ⟨#[]⟩,.slice none 0 0,.slice none 0 0];have xa0:=box0 ya 0 _ rfl;have xa1:=box0 ya 1 _ rfl;have xa2:=box0 ya 2 _ rfl;have xa3:=box0 ya 3 _ rfl;have xa4:=box0 ya 4 _ rfl;have xb0:=box0 yb 0 _ rfl;have xb1:=box0 yb 1 _ rfl;have xb2:=box0 yb 2 _ rfl;have xb3:=box0 yb 3 _ rfl;have xb4:=box0 yb 4 _ rfl;have bka:Bx _ _ _ _:=ya;have bkb:Bx _ _ _ _:=yb;clear ya yb;have HA0:=hJ bka;have HR0:=hJ bkb;clear bka bkb;go_enter func14,ntmps14
 go_wp2_with fail
 refine (HCV.out _ B0.out).mono ?_;rintro e w1 ⟨rfl,hb1⟩;have hW1:=B0.out.trans (hb1.mono B0.out.size)
 go_wp2_with fail
 refine (HCB.out _ hW1).mono ?_;rintro e w2 ⟨rfl,hb2⟩;have HW:=hJ (hW1.trans (hb2.mono hW1.size));have HA2:=hJ ((HA0.out.below hb1 HA0.out.lt).below hb2 (HA0.out.below hb1 HA0.out.lt).lt);have HR2:=hJ ((HR0.out.below hb1 HR0.out.lt).below hb2 (HR0.out.below hb1 HR0.out.lt).lt);have hlR:=HR2.out.lt;have hlA:=HA2.out.lt;clear xa0 xa1 xa2 xa3 xa4 xb0 xb1 xb2 xb3 xb4 hb1 hb2 hW1 HR0 HA0 B0 HCV HCB;obtain ⟨w3,hw3⟩:∃ q,q=w2.alloc (.cells #[.slice none 0 0,.string ⟨#[]⟩,.string ⟨#[]⟩,.slice none 0 0,.slice none 0 0] 29):=⟨_,rfl⟩
 have hfold:=hw3.symm;have HG3:Hid (Bx w3 w2.heap.size 29 [.slice none 0 0,.string ⟨#[]⟩,.string ⟨#[]⟩,.slice none 0 0,.slice none 0 0]):=hJ (by rw [hw3];exact Bx.fresh _ _ _);have HB3:Hid (Below w2.heap.size w2 w3):=hJ (by rw [hw3];exact (Below.refl _ _).alloc (Nat.le_refl _) _);clear hw3;have HA3:=hJ (HA2.out.below HB3.out hlA);have y0:=HA3.out.cell 0 _ rfl;have y1:=HA3.out.cell 1 _ rfl;have y2:=HA3.out.cell 2 _ rfl;have y3:=HA3.out.cell 3 _ rfl;have y4:=HA3.out.cell 4 _ rfl
 go_wp2_with fail
 refine (HCA.out w3 (HW.out.trans (HB3.out.mono HW.out.size))).mono ?_;rintro e w4 ⟨⟨v,rfl,hown⟩,hb4⟩;obtain ⟨al,cl,rfl,hsl⟩:=hown.sl;rw [hAl] at hsl ⊢;have HLs:=hJ hsl;have HG4:=hJ (HG3.out.below hb4 HG3.out.lt);have HB4:=hJ (HB3.out.trans (hb4.mono HB3.out.size));have HA4:=hJ (HA3.out.below hb4 HA3.out.lt);have HR4:=hJ ((HR2.out.below HB3.out HR2.out.lt).below hb4 (HR2.out.below HB3.out HR2.out.lt).lt);have hz3:=hb4.size;have hz4:=HB3.out.size;clear hown hsl hb4 y0 y1 y2 y3 y4;have hzG:=HG3.out.lt;have hzW:=HW.out.size
 go_wp2_with fail
 have HNe:Hid (∀ q,(X q∨w4.heap.size≤q)→q≠w2.heap.size∧w2.heap.size≠q):=hJ (fun q hq=>by
  rcases hq with r | r
  · have:=HXw.out q r;exact ⟨by omega,by omega⟩
  · exact ⟨by omega,by omega⟩)
 go_loopw [8] (fun i wr=>∃ (k:Nat) (v0 c1 c2 c3:Value),k≤n+1∧i= .int .i64 k∧Hid (∀ j,j<k→kAX b ((allT s).getD j default).shape=true)∧Hid (Own RTyp 26 (fun q=>X q∨w4.heap.size≤q) wr w4.heap.size v0 ((s.params.take k).map (kAS b)))∧Hid (Bx wr w2.heap.size 29 [v0,c1,c2,c3,.slice none 0 0])∧Below w2.heap.size w2 wr∧Hid (∀ q,q<w4.heap.size→q≠w2.heap.size→wr.heap[q]? =w4.heap[q]?)∧w4.heap.size≤wr.heap.size∧Hid (k≤n→c1= .string ⟨#[]⟩∧c2= .string ⟨#[]⟩∧c3= .slice none 0 0)∧Hid (k=n+1→∃ a5 c5,c1= .string (kAS b s.result).elem∧c2= .string (kAS b s.result).shape.row∧c3= .slice a5 (kAS b s.result).shape.dims.length c5∧Sl RLin (fun q=>X q∨w4.heap.size≤q) wr a5 (kAS b s.result).shape.dims.length c5 (kAS b s.result).shape.dims)) (fun i _=>n+1 - (intOf i).toNat)
 case atStart=>exact ⟨0,_,_,_,_,Nat.zero_le _,rfl,hJ (fun i hi=>absurd hi (by omega)),hJ (Own.nil _ _ _ _ _),HG4,HB4.out,hJ (fun _ _ _=>rfl),Nat.le_refl _,hJ (fun _=>⟨rfl,rfl,rfl⟩),hJ (fun q=>absurd q (by omega))⟩
 case round =>
  obtain ⟨k,v0,c1,c2,c3,hk,rfl,HT,HO,HG,hB,HKeep,hsz,HZ,HE⟩:=hrel;have HBw:=hJ (HW.out.trans (hB.mono HW.out.size));have HRr:Hid (Bx wr _ _ _):=hJ ((HKeep.out _ HR4.out.lt (by omega)).trans HR4.out);have HAr:Hid (Bx wr _ _ _):=hJ ((HKeep.out _ HA4.out.lt (by omega)).trans HA4.out);have hlG:=HG.out.lt;have hlA3:=HAr.out.lt;have y0:=HAr.out.cell 0 _ rfl;have HLr:=hJ (HLs.out.frame (w':=wr) (fun q hq hlt=>HKeep.out q hlt (by rcases hq with hq | hq;exact (by have:=hq.2;omega);exact (by have hq:w3.heap.size≤q:=hq;omega))));by_cases hlt:k<n+1
  · obtain ⟨q1,q2,q3⟩:=HZ.out (by omega)
    subst q1 q2 q3;clear HE HZ;obtain ⟨a0,m0,c0,rfl⟩:=HO.out.shape;obtain ⟨b1,off,rfl,hbW,_⟩:=HLr.out.form k hlt;obtain ⟨t,hr,⟨at_,ct,rfl,hts⟩,e0,e1,e2⟩:=HLr.out.typ k hlt;have HK:Hid (k<n+1):=hJ hlt;have HBad:=hJ (fun q=>HBadA.out k hlt q);have HUp:=hJ (fun q=>upto HT.out (p:=fun j=>kAX b ((allT s).getD j default).shape=true) q);have HXv:=hJ (HAV.out k hlt);have HNx:Hid (k<n→(allT s).getD k default=s.params.getD k default):=hJ (fun q=>HA1.out k q);have HLx:Hid (k=n→(allT s).getD k default=s.result):=hJ (fun q=>by rw [q];exact HA2'.out);have hkl:((s.params.take k).map (kAS b)).length=k:=by rw [List.length_map,List.length_take,HN.out];omega
    have HNext:Hid (k<n→(s.params.take (k+1)).map (kAS b)=(s.params.take k).map (kAS b)++[kAS b (s.params.getD k default)]):=hJ (fun q=>by rw [kAY (by rw [HN.out];exact q),List.map_append];rfl);generalize (allT s).getD k default=x at *;have HCx:=hJ (HCT.out _ _ HBw.out x _ hr HXv.out);clear hr hts;cases hok:kAX b x.shape with
    | false =>
      have HBd:=hJ (HBad.out hok);rw [(kBI hok).1,(kBI hok).2.1] at HCx;clear hok
      go_wp2_with fail
      refine HCx.out.mono ?_;rintro e w5 ⟨⟨_,rfl,hr5⟩,hb5⟩;obtain ⟨_,rfl,a5,c5,rfl,hs5⟩:=hr5;have HR5:=hJ (HRr.out.below hb5 HRr.out.lt);obtain ⟨w7,hfold7⟩:∃ q,w5.alloc (.cells #[.string kBN.elem,.string kBN.shape.row,.slice a5 kBN.shape.dims.length c5] 26)=q:=⟨_,rfl⟩
      have HRw:=hJ (HR5.out.alloc (.cells #[.string kBN.elem,.string kBN.shape.row,.slice a5 kBN.shape.dims.length c5] 26));rw [hfold7] at HRw;have HWw:Hid (Below w.heap.size w w7):=hJ (by rw [← hfold7];exact (HBw.out.trans (hb5.mono HBw.out.size)).alloc (by have:=hb5.size;have:=HBw.out.size;omega) _);have v0:=HRw.out.cell 0 _ rfl;have v1:=HRw.out.cell 1 _ rfl;have v2:=HRw.out.cell 2 _ rfl;have v3:=HRw.out.cell 3 _ rfl;have v4:=HRw.out.cell 4 _ rfl;have u0:=HRw.out.fz 0;have u1:=HRw.out.fz 1;have u2:=HRw.out.fz 2;have u3:=HRw.out.fz 3;have u4:=HRw.out.fz 4;have hlr:=HRw.out.lt;have HX60:=hJ (((((HRw.out.set 0 (.slice none 0 0)).set 1 (.string ⟨#[]⟩)).set 2 (.string ⟨#[]⟩)).set 3 (.slice none 0 0)).set 4 (.slice none 0 0));have s0:=HX60.out.cell 0 _ rfl;have s1:=HX60.out.cell 1 _ rfl;have s2:=HX60.out.cell 2 _ rfl;have s3:=HX60.out.cell 3 _ rfl;have s4:=HX60.out.cell 4 _ rfl
      go_wp2_with fail
      refine bodyPost_ret (v:=.tuple #[.agg #[.slice none 0 0,.string ⟨#[]⟩,.string ⟨#[]⟩,.slice none 0 0,.slice none 0 0],.int .i64 3]) (by simp [results,results14,go_sem,s0,s1,s2,s3,s4,hlr]) rfl ?_;refine ⟨⟨[.slice none 0 0,.string ⟨#[]⟩,.string ⟨#[]⟩,.slice none 0 0,.slice none 0 0],by rw [HBd.out.2],by rw [HBd.out.1];exact kEZ.no ..⟩,?_⟩
      repeat (first | exact HWw.out | refine Below.setCell ?_ (by show _≤w.heap.size+1;omega) _)
    | true =>
      have HUp2:=hJ (HUp.out hok);rw [(kCM hok).1,(kCM hok).2.1] at HCx;clear hok HBad HUp
      go_wp2_with fail
      refine HCx.out.mono ?_;rintro e w5 ⟨⟨_,rfl,hr5⟩,hb5⟩;obtain ⟨_,rfl,a5,c5,rfl,hs5⟩:=hr5;obtain ⟨y,hy⟩:∃ y,y=kAS b x:=⟨_,rfl⟩
      have HY:=hJ hy;rw [← hy] at hs5 ⊢;clear hy;obtain ⟨w7,hfold7⟩:∃ q,w5.alloc (.cells #[.string y.elem,.string y.shape.row,.slice a5 y.shape.dims.length c5] 26)=q:=⟨_,rfl⟩
      have HB7:Hid (Below wr.heap.size wr w7):=hJ (by rw [← hfold7];exact hb5.alloc hb5.size _);have HP7:Hid (Bx w7 w5.heap.size 26 [.string y.elem,.string y.shape.row,.slice a5 y.shape.dims.length c5]):=hJ (by rw [← hfold7];exact Bx.fresh _ _ _);have r0:=HP7.out.cell 0 _ rfl;have r1:=HP7.out.cell 1 _ rfl;have r2:=HP7.out.cell 2 _ rfl;have HG7:=hJ (HG.out.below HB7.out hlG);have HA7:=hJ (HAr.out.below HB7.out HAr.out.lt);have z0:=HA7.out.cell 0 _ rfl;have hs7:=HB7.out.size;have HS7:=hJ ((hs5.below ((Below.refl _ _).alloc (Nat.le_refl _) (.cells #[.string y.elem,.string y.shape.row,.slice a5 y.shape.dims.length c5] 26))));rw [hfold7] at HS7;clear hs5;by_cases hkn:k<n
      · have g0:=HG7.out.cell 0 _ rfl
        have hki:(k:Int)<(n:Int):=by omega
        have HRY:Hid (RTyp.rd (fun q=>(X q∨w4.heap.size≤q)∧(Value.slice a0 m0 c0).ownBlock≠some q) w7 [.string y.elem,.string y.shape.row,.slice a5 y.shape.dims.length c5] y):=hJ ⟨_,rfl,a5,c5,rfl,HS7.out.mono (fun q hq _=>⟨hq.imp id (fun hq=>by omega),fun e=>by have h8:=(HO.out.block e).2;have h9:=HO.out.base_le q e;rcases hq with hq | hq;have:=HXw.out q hq;omega;omega⟩)⟩;have HNext2:Hid ((s.params.take (k+1)).map (kAS b)=(s.params.take k).map (kAS b)++[y]):=hJ (by rw [HNext.out hkn,← HNx.out hkn,HY.out]);generalize (s.params.take k).map (kAS b)=lk at *
        go_wp2_with (at_builtin;refine kAZ kGL rfl _ _ rfl w4.heap.size _ _ rfl ((HO.out.below HB7.out).alloc _) _ y [.string y.elem,.string y.shape.row,.slice a5 y.shape.dims.length c5] rfl (RTyp.below HRY.out ((Below.refl _ _).alloc (Nat.le_refl _) _)) (kA3 26 (by (simp only [kAI,kAH,Array.getElem?_push,Array.size_push];simp))) (by omega) (by unfold maxLen;omega) (by simp;omega) ?_;intro v9 w9 hown9 hb9 hk9;obtain ⟨a9,m9,c9,rfl⟩:=hown9.shape;have HG9:=hJ ((HG7.out.alloc _).kp hk9 (HO.out.ne (by omega)));have g9:=HG9.out.cell 0 _ rfl;have u9:=HG9.out.fz 0)
        go_roundw
        case rel=>exact ⟨k+1,_,_,_,_,by omega,by go_num,HUp2,hJ (by rw [HNext2.out];exact hown9.set _ (fun q hq=>(HNe.out q hq).1) (by show w2.heap.size<_;omega)),hJ (HG9.out.set 0 _),((hB.trans (HB7.out.mono hB.size)).trans (((Below.refl _ _).alloc (by omega) _).trans (hb9.mono (by omega)))).setCell (Nat.le_refl _) _,hJ (fun q hq hne=>(kAA (fun e=>hne e.symm)).trans ((((Below.refl _ _).alloc (B:=w4.heap.size) (by omega) _).trans hb9).block q hq |>.trans ((HB7.out.block q (by omega)).trans (HKeep.out q hq hne)))),by have:=hb9.size;simp at this ⊢;omega,hJ (fun _=>⟨rfl,rfl,rfl⟩),hJ (fun q=>absurd q (by omega))⟩
        case measure=>simp [intOf];omega
      · have hki:¬ (k:Int)<(n:Int):=by omega
        have g1:=HG7.out.cell 1 _ rfl;have g2:=HG7.out.cell 2 _ rfl;have g3:=HG7.out.cell 3 _ rfl;have u1:=HG7.out.fz 1;have u2:=HG7.out.fz 2;have u3:=HG7.out.fz 3;obtain rfl:k=n:=by omega
        have HYr:Hid (y=kAS b s.result):=hJ (by rw [HY.out,HLx.out rfl]);have HTk:Hid (s.params.take (k+1)=s.params.take k):=hJ (by rw [List.take_of_length_le (by rw [HN.out];omega),List.take_of_length_le (by rw [HN.out];omega)])
        go_wp2_with fail
        go_roundw
        case rel =>
         refine ⟨k+1,_,_,_,_,by omega,by go_num,HUp2,hJ (by rw [HTk.out];exact (((HO.out.below HB7.out).set _ (fun q hq=>(HNe.out q hq).1) (by show w2.heap.size<_;omega)).set _ (fun q hq=>(HNe.out q hq).1) (by show w2.heap.size<_;omega)).set _ (fun q hq=>(HNe.out q hq).1) (by show w2.heap.size<_;omega)),hJ (((HG7.out.set 1 _).set 2 _).set 3 _),(((hB.trans (HB7.out.mono hB.size)).setCell (Nat.le_refl _) _).setCell (Nat.le_refl _) _).setCell (Nat.le_refl _) _,hJ (fun q hq hne=>(kAA (fun e=>hne e.symm)).trans ((kAA (fun e=>hne e.symm)).trans ((kAA (fun e=>hne e.symm)).trans ((HB7.out.block q (by omega)).trans (HKeep.out q hq hne))))),by simp <;> omega,hJ (fun q=>absurd q (by omega)),hJ (fun _=>?_)⟩;refine ⟨a5,c5,by rw [HYr.out],by rw [HYr.out],by rw [HYr.out],?_⟩;rw [← HYr.out];have hne:∀ q,(X q∨w4.heap.size≤q)→w2.heap.size≠q:=fun q hq=>(HNe.out q hq).2
         exact ((((HS7.out.mono (S':=fun q=>X q∨w4.heap.size≤q) (fun q hq _=>hq.imp id (fun hq=>by omega))).set hne).set hne).set hne)
        case measure=>simp [intOf] <;> omega
  · have hkn:k=n+1:=by omega
    obtain ⟨a5,c5,q1,q2,q3,hs5⟩:=HE.out hkn;have hki:¬ (k:Int)<(n:Int)+1:=by omega
    subst q1 q2 q3;have HokR:Hid (kAX b s.result.shape=true):=hJ (by have:=HT.out n (by omega);rwa [HA2'.out] at this);have HT0:Hid (∀ j,j<n→kAX b (s.params.getD j default).shape=true):=hJ (fun j hj=>by have:=HT.out j (by omega);rwa [HA1.out j hj] at this);have HAll:Hid ((s.params.take k).map (kAS b)=s.params.map (kAS b)):=hJ (by rw [List.take_of_length_le (by rw [HN.out];omega)]);have HO7:=hJ (HAll.out ▸ (HO.out.lower (base':=w2.heap.size+1) (by omega)).mono (S':=fun q=>X q∨w2.heap.size<q) (fun q hq _=>hq.imp id (fun hq=>by omega)));obtain ⟨y,hy⟩:∃ y,y=kAS b s.result:=⟨_,rfl⟩
    have HY:=hJ hy;rw [← hy] at hs5 HG;clear hy;have HS7:=hJ (hs5.mono (S':=fun q=>X q∨w2.heap.size<q) (fun q hq _=>hq.imp id (fun hq=>by omega)));obtain ⟨a0,m0,c0,rfl⟩:=HO7.out.shape;clear HT HE HZ HO HAll hs5 HLr;have HT:=HT0;have HG7:=HG;have HB7:=hJ hB;have HR7:=HRr;have HA7:=HAr;have hl7:=hlG;clear HT0 HG hB HRr HAr hlG HKeep HR4 HA4 HG4 HLs HBw
    rename World=>w7
    go_wp2_with fail
    have HMore:Hid (∀ W:World,W.heap[w.heap.size]? =w7.heap[w.heap.size]? →W.cell? ⟨w.heap.size,4,none⟩=some (.slice aq m cq)):=hJ (fun W q=>Bx.cell (w:=W) (q.trans HA7.out) 4 _ rfl)
    go_loopw [11] (fun i wt=>∃ (k:Nat) (v0:Value),k≤m∧i= .int .i64 k∧Hid (∀ j,j<k→kAB (kAD b (s.wh.getD j default))=true)∧Hid (Own RLin 45 (fun q=>w7.heap.size≤q) wt w7.heap.size v0 ((s.wh.take k).map (kAD b)))∧Hid (Bx wt w2.heap.size 29 [.slice a0 m0 c0,.string y.elem,.string y.shape.row,.slice a5 y.shape.dims.length c5,v0])∧Below w2.heap.size w2 wt∧Hid (∀ q,q<w7.heap.size→q≠w2.heap.size→wt.heap[q]? =w7.heap[q]?)∧w7.heap.size≤wt.heap.size) (fun i _=>m - (intOf i).toNat)
    case atStart=>exact ⟨0,_,Nat.zero_le _,rfl,hJ (fun i hi=>absurd hi (by omega)),hJ (Own.nil _ _ _ _ _),HG7,HB7.out,hJ (fun _ _ _=>rfl),Nat.le_refl _⟩
    case round =>
     clear HG7;obtain ⟨k,v0,hk,rfl,HTw,HOw,HG,hB,HKeep,hsz⟩:=hrel;have HBw:=hJ (HW.out.trans (hB.mono HW.out.size));have HRr:Hid (Bx wr _ _ _):=hJ ((HKeep.out _ HR7.out.lt (by omega)).trans HR7.out);have hlG:=HG.out.lt;have hlR:=HRr.out.lt;obtain ⟨a6,m6,c6,rfl⟩:=HOw.out.shape;have y4:=HMore.out wr (HKeep.out _ (by omega) (by omega));by_cases hlt:k<m
     · obtain ⟨b1,off,rfl,hbW,_⟩:=HQs.out.form k hlt
       obtain ⟨t,hr,⟨at_,ct,rfl,hts⟩,e0,e1⟩:=(HQs.out.below HBw.out).lin k hlt;have HK:Hid (k<s.wh.length):=hJ (by rw [HM.out];exact hlt);have HNext:Hid ((s.wh.take (k+1)).map (kAD b)=(s.wh.take k).map (kAD b)++[kAD b (s.wh.getD k default)]):=hJ (by rw [kAY HK.out,List.map_append];rfl);have hkl:((s.wh.take k).map (kAD b)).length=k:=by rw [List.length_map,List.length_take,HM.out];omega
       have HBad:=hJ (fun q=>sch_badW (b:=b) HK.out q);have HUp:=hJ (fun q=>upto HTw.out (p:=fun j=>kAB (kAD b (s.wh.getD j default))=true) q);have HXv:=hJ (HV.out.2.2.2.2 _ (kAJ HK.out));generalize s.wh.getD k default=x at *;generalize (s.wh.take k).map (kAD b)=lk at *;have HCx:=hJ (HCL.out _ HBw.out x _ hr HXv.out);clear hr hts;cases hvx:kAB (kAD b x) with
       | false =>
         have HBd:=hJ (HBad.out hvx);rw [(lim_bad hvx).2] at HCx;clear hvx;generalize limL (kAD b x)=z at *
         go_wp2_with fail
         refine HCx.out.mono ?_;rintro e w5 ⟨⟨_,rfl,hr5⟩,hb5⟩;obtain ⟨_,rfl,a8,c8,rfl,hs5⟩:=hr5;have HR5:=hJ (HRr.out.below hb5 HRr.out.lt);obtain ⟨w8,hfold8⟩:∃ q,w5.alloc (.cells #[.int .i64 z.const,.slice a8 z.terms.length c8] 45)=q:=⟨_,rfl⟩
         have HRw:=hJ (HR5.out.alloc (.cells #[.int .i64 z.const,.slice a8 z.terms.length c8] 45));rw [hfold8] at HRw;have HWw:Hid (Below w.heap.size w w8):=hJ (by rw [← hfold8];exact (HBw.out.trans (hb5.mono HBw.out.size)).alloc (by have:=hb5.size;have:=HBw.out.size;omega) _);have v0:=HRw.out.cell 0 _ rfl;have v1:=HRw.out.cell 1 _ rfl;have v2:=HRw.out.cell 2 _ rfl;have v3:=HRw.out.cell 3 _ rfl;have v4:=HRw.out.cell 4 _ rfl;have u0:=HRw.out.fz 0;have u1:=HRw.out.fz 1;have u2:=HRw.out.fz 2;have u3:=HRw.out.fz 3;have u4:=HRw.out.fz 4;have hlr:=HRw.out.lt;have HX60:=hJ (((((HRw.out.set 0 (.slice none 0 0)).set 1 (.string ⟨#[]⟩)).set 2 (.string ⟨#[]⟩)).set 3 (.slice none 0 0)).set 4 (.slice none 0 0));have s0:=HX60.out.cell 0 _ rfl;have s1:=HX60.out.cell 1 _ rfl;have s2:=HX60.out.cell 2 _ rfl;have s3:=HX60.out.cell 3 _ rfl;have s4:=HX60.out.cell 4 _ rfl
         go_wp2_with fail
         refine bodyPost_ret (v:=.tuple #[.agg #[.slice none 0 0,.string ⟨#[]⟩,.string ⟨#[]⟩,.slice none 0 0,.slice none 0 0],.int .i64 3]) (by simp [results,results14,go_sem,s0,s1,s2,s3,s4,hlr]) rfl ?_;refine ⟨⟨[.slice none 0 0,.string ⟨#[]⟩,.string ⟨#[]⟩,.slice none 0 0,.slice none 0 0],by rw [HBd.out.2],by rw [HBd.out.1];exact kEZ.no ..⟩,?_⟩
         repeat (first | exact HWw.out | refine Below.setCell ?_ (by show _≤w.heap.size+1;omega) _)
       | true =>
         have HUp2:=hJ (HUp.out hvx);clear HUp;rw [(kET hvx).1,(kET hvx).2] at HCx;clear hvx HBad
         go_wp2_with fail
         refine HCx.out.mono ?_;rintro e w5 ⟨⟨_,rfl,hr5⟩,hb5⟩;obtain ⟨_,rfl,a8,c8,rfl,hs5⟩:=hr5;generalize kAD b x=z at *;obtain ⟨w8,hfold8⟩:∃ q,w5.alloc (.cells #[.int .i64 z.const,.slice a8 z.terms.length c8] 45)=q:=⟨_,rfl⟩
         have HB8:Hid (Below wr.heap.size wr w8):=hJ (by rw [← hfold8];exact hb5.alloc hb5.size _);have HP8:Hid (Bx w8 w5.heap.size 45 [.int .i64 z.const,.slice a8 z.terms.length c8]):=hJ (by rw [← hfold8];exact Bx.fresh _ _ _);have r0:=HP8.out.cell 0 _ rfl;have r1:=HP8.out.cell 1 _ rfl;have HS8:Hid (Sl kA2 (fun q=>wr.heap.size≤q) w8 a8 z.terms.length c8 z.terms):=hJ (hfold8 ▸ (hs5.below ((Below.refl _ _).alloc (Nat.le_refl _) (.cells #[.int .i64 z.const,.slice a8 z.terms.length c8] 45))));clear hs5 hb5;have HG8:=hJ (HG.out.below HB8.out hlG);have g4:=HG8.out.cell 4 _ rfl;have hs8:=HB8.out.size;have HRY:Hid (RLin.rd (fun q=>w7.heap.size≤q∧(Value.slice a6 m6 c6).ownBlock≠some q) w8 [.int .i64 z.const,.slice a8 z.terms.length c8] z):=hJ ⟨_,rfl,a8,c8,rfl,HS8.out.mono (fun q hq _=>⟨by have:wr.heap.size≤q:=hq;omega,fun e=>by have h8:=(HOw.out.block e).2;have:wr.heap.size≤q:=hq;omega⟩)⟩;clear HS8
         go_wp2_with (at_builtin;refine kAZ kBP rfl _ _ rfl w7.heap.size _ _ rfl ((HOw.out.below HB8.out).alloc _) _ z [.int .i64 z.const,.slice a8 z.terms.length c8] rfl (RLin.below HRY.out ((Below.refl _ _).alloc (Nat.le_refl _) _)) (kA3 45 (by (simp only [kAI,kAH,Array.getElem?_push,Array.size_push];simp))) (by omega) (by unfold maxLen;omega) (by simp;omega) ?_;intro v9 w9 hown9 hb9 hk9;obtain ⟨a9,m9,c9,rfl⟩:=hown9.shape;have HG9:=hJ ((HG8.out.alloc _).kp hk9 (HOw.out.ne hl7));have g9:=HG9.out.cell 4 _ rfl;have u9:=HG9.out.fz 4)
         go_roundw
         case rel=>exact ⟨k+1,_,by omega,by go_num,HUp2,hJ (by rw [HNext.out];exact hown9.set _ (fun q hq=>Nat.ne_of_gt (Nat.lt_of_lt_of_le hl7 hq)) hl7),hJ (HG9.out.set 4 _),((hB.trans (HB8.out.mono hB.size)).trans (((Below.refl _ _).alloc (by omega) _).trans (hb9.mono (Nat.le_of_lt hl7)))).setCell (Nat.le_refl _) _,hJ (fun q hq hne=>(kAA (fun e=>hne e.symm)).trans ((((Below.refl _ _).alloc (B:=w7.heap.size) (by omega) _).trans hb9).block q hq |>.trans ((HB8.out.block q (by omega)).trans (HKeep.out q hq hne)))),by have:=hb9.size;simp at this ⊢;omega⟩
         case measure=>simp [intOf];omega
     · obtain rfl:k=m:=by omega
       have HAll:Hid ((s.wh.take k).map (kAD b)=s.wh.map (kAD b)):=hJ (by rw [List.take_of_length_le (by rw [HM.out];exact Nat.le_refl _)]);rw [HAll.out] at HOw;obtain ⟨z1,z2⟩:=HGood.out HT.out HokR.out HTw.out;have HZ1:=hJ z1;have HZ2:=hJ z2;clear z1 z2;have g0:=HG.out.cell 0 _ rfl;have g1:=HG.out.cell 1 _ rfl;have g2:=HG.out.cell 2 _ rfl;have g3:=HG.out.cell 3 _ rfl;have g4:=HG.out.cell 4 _ rfl;have v0:=HRr.out.cell 0 _ rfl;have v1:=HRr.out.cell 1 _ rfl;have v2:=HRr.out.cell 2 _ rfl;have v3:=HRr.out.cell 3 _ rfl;have v4:=HRr.out.cell 4 _ rfl;have u0:=HRr.out.fz 0;have u1:=HRr.out.fz 1;have u2:=HRr.out.fz 2;have u3:=HRr.out.fz 3;have u4:=HRr.out.fz 4;have hlr:=HRr.out.lt;have HX60:=hJ (((((HRr.out.set 0 (.slice a0 m0 c0)).set 1 (.string y.elem)).set 2 (.string y.shape.row)).set 3 (.slice a5 y.shape.dims.length c5)).set 4 (.slice a6 m6 c6));have s0:=HX60.out.cell 0 _ rfl;have s1:=HX60.out.cell 1 _ rfl;have s2:=HX60.out.cell 2 _ rfl;have s3:=HX60.out.cell 3 _ rfl;have s4:=HX60.out.cell 4 _ rfl
       go_wp2_with fail
       refine bodyPost_ret (v:=.tuple #[.agg #[.slice a0 m0 c0,.string y.elem,.string y.shape.row,.slice a5 y.shape.dims.length c5,.slice a6 m6 c6],.int .i64 0]) (by simp [results,results14,go_sem,s0,s1,s2,s3,s4,hlr]) rfl ?_;refine ⟨⟨[.slice a0 m0 c0,.string y.elem,.string y.shape.row,.slice a5 y.shape.dims.length c5,.slice a6 m6 c6],by rw [HZ2.out],?_⟩,?_⟩
       · rw [HZ1.out]
         skip
         have hXq:∀ q,(X q∨w2.heap.size<q)→w2.heap.size≠q∧w.heap.size+1≠q∧(X q∨w.heap.size≤q):=fun q hq=>by
          rcases hq with r | r
          · have:=HXw.out q r;exact ⟨by omega,by omega,.inl r⟩
          · exact ⟨by omega,by omega,.inr (by omega)⟩
         have q2:=(HS7.out.mono (S':=fun q=>(X q∨w2.heap.size<q)∧q<w7.heap.size) (fun q hq hlt=>⟨hq,hlt⟩)).frame (w':=wr) (fun q hq hlt=>HKeep.out q hlt (Ne.symm (hXq q hq.1).1));obtain ⟨a10,c10,e10,q1⟩:=HO7.out.sl;have q1:=(q1.mono (S':=fun q=>(X q∨w2.heap.size<q)∧q<w7.heap.size) (fun q hq hlt=>⟨hq.elim id .inr,hlt⟩)).frame (w':=wr) (fun q hq hlt=>HKeep.out q hlt (Ne.symm (hXq q hq.1).1));rw [Value.slice.injEq] at e10;obtain ⟨rfl,rfl,rfl⟩:=e10
         have hR2:∀ {α :Type} {R:Rep α} {a:Option Addr} {n c:Nat} {l:List α},Sl R (fun q=>(X q∨w2.heap.size<q)∧q<w7.heap.size) wr a n c l→Sl R (fun k=>(X k∨w.heap.size≤k)∧k<w7.heap.size) (((((wr.setCell ⟨w.heap.size+1,0,none⟩ (.slice a0 (s.params.map (kAS b)).length c0)).setCell ⟨w.heap.size+1,1,none⟩ (.string y.elem)).setCell ⟨w.heap.size+1,2,none⟩ (.string y.shape.row)).setCell ⟨w.heap.size+1,3,none⟩ (.slice a5 y.shape.dims.length c5)).setCell ⟨w.heap.size+1,4,none⟩ (.slice a6 m6 c6)) a n c l:=by
          intro α R a n c l hs;have hne:∀ q,((X q∨w2.heap.size<q)∧q<w7.heap.size)→w.heap.size+1≠q:=fun q hq=>(hXq q hq.1).2.1
          exact (((((hs.set hne).set hne).set hne).set hne).set hne).mono (fun q hq _=>⟨(hXq q hq.1).2.2,hq.2⟩)
         have hS3:∀ q,w7.heap.size≤q→q≠w.heap.size+1:=fun q hq=>by omega
         have hl3:w.heap.size+1<w7.heap.size:=by omega
         refine ⟨w7.heap.size,_,_,_,by omega,by rw [HY.out];rfl,⟨a0,c0,rfl,hR2 q1⟩,⟨a5,c5,by first | rfl | (rw [HY.out];rfl),?_⟩,((((HOw.out.set _ hS3 hl3).set _ hS3 hl3).set _ hS3 hl3).set _ hS3 hl3).set _ hS3 hl3⟩;have:=hR2 q2
         show Sl RLin _ _ a5 (kAS b s.result).shape.dims.length c5 (kAS b s.result).shape.dims
         rw [← HY.out];exact this
       · repeat (first | exact HBw.out | refine Below.setCell ?_ (by show _≤w.heap.size+1;omega) _)
def szB (x:Bnd):Prop:=x.v.size≤281474976710656∧x.elem.size≤281474976710656∧szL x.dim∧szH x.row
theorem bnd_val (x:Bnd):kBB x=(if x.kind=1 then kAW x.v && (kAB x.dim && ((x.row.row.toList.isEmpty && ((x.row.dims.length:Int)==0)) && x.elem.toList.isEmpty))
 else if x.kind=2 then kAW x.v && (kAG x.row && ((x.dim.const==0 && ((x.dim.terms.length:Int)==0)) && x.elem.toList.isEmpty))
 else if x.kind=3 then kAN x.v && (kCY x.elem && ((x.dim.const==0 && ((x.dim.terms.length:Int)==0)) && (x.row.row.toList.isEmpty && ((x.row.dims.length:Int)==0)))) else false):=by
 have e:∀ n:Nat,(((n:Int)==0):Bool)=(n==0):=fun n=>by rw [Bool.eq_iff_iff,beq_iff_eq,beq_iff_eq];omega
 unfold kBB kD3 zeroL;rw [e,e]
theorem shape_bound_any {S:Blk} {x:Bnd} {cs:List Value} {w:World} (h:RBnd.rd S w cs x) (hz:szB x) (E:Env w) :
 Calls Tryz.prog 105 #[.agg cs.toArray] w fun e w'=>e= .returned (.bool (kBB x))∧Below w.heap.size w w':=by
 obtain ⟨t,d,rfl,⟨a,c,rfl,ht⟩,⟨a2,c2,rfl,hd⟩⟩:=h
 have HL:Hid (∀ W,Below w.heap.size w W→Calls Tryz.prog 77 #[.agg #[.int .i64 x.dim.const,.slice a x.dim.terms.length c]] W fun e w'=>e= .returned (.bool (kAB x.dim))∧Below W.heap.size W w') :=
  hJ (fun W hW=>kB5 (S:=S) x.dim a _ c W (ht.below hW) hz.2.2.1 (E.below hW))
 have HH:Hid (∀ W,Below w.heap.size w W→Calls Tryz.prog 70 #[.agg #[.string x.row.row,.slice a2 x.row.dims.length c2]] W fun e w'=>e= .returned (.bool (kAG x.row))∧Below W.heap.size W w') :=
  hJ (fun W hW=>kCS (S:=S) (s:=x.row) (cs:=[.string x.row.row,.slice a2 x.row.dims.length c2]) ⟨_,rfl,a2,c2,rfl,hd.below hW⟩ hz.2.2.2 (E.below hW))
 have HN:=hJ (fun (W:World) (hW:Below w.heap.size w W)=>kBG x.v hz.1 W (E.below hW));have HV:=hJ (fun (W:World)=>kBK x.v hz.1 W);have HW2:=hJ (fun (W:World)=>kBK x.elem hz.2.1 W);have hm1:=ht.small;have hm2:=hd.small;have hvz:=hz.1;have hez:=hz.2.1;have HRo:=hJ (bnd_val x);have HEb:Hid (kCY x.elem=((x.elem.toList==[105,110,116]) || ((x.elem.toList==[98,111,111,108]) || kAN x.elem))):=hJ rfl;clear ht hd hz E;generalize kBB x=res at *;generalize kAB x.dim=bl at *;generalize kAG x.row=bh at *;generalize kCY x.elem=be at *;obtain ⟨kind,v,dim,row,elem⟩:=x;simp only at *;generalize dim.terms.length=n at *;generalize row.dims.length=m at *;generalize dim.const=dc at *;generalize row.row=rr at *;obtain ⟨B0,ya,hW0⟩:=box1 w 47 [.int .i64 kind,.string v,.int .i64 dc,.slice a n c,.string rr,.slice a2 m c2,.string elem];have xa0:=box0 ya 0 _ rfl;have xa1:=box0 ya 1 _ rfl;have xa2:=box0 ya 2 _ rfl;have xa3:=box0 ya 3 _ rfl;have xa4:=box0 ya 4 _ rfl;have xa5:=box0 ya 5 _ rfl;have xa6:=box0 ya 6 _ rfl;clear ya;have hD:∃ D:Bool,D=(dc==0 && ((n:Int)==0)):=⟨_,rfl⟩
 have hRw:∃ R:Bool,R=(rr.toList.isEmpty && ((m:Int)==0)):=⟨_,rfl⟩
 obtain ⟨D,hD⟩:=hD;obtain ⟨R,hR⟩:=hRw;have HD:=hJ hD;have HRr:=hJ hR;rw [← hD,← hR] at HRo;clear hD hR;go_enter func105,ntmps105
 go_upto_region 1 with fail
 generalize (w.alloc (.cells #[.int .i64 kind,.string v,.int .i64 dc,.slice a n c,.string rr,.slice a2 m c2,.string elem] 47))=W at *
 go_cut [3] (fun v W9=>v= .bool D∧W=W9)
 case first =>
  clear HN HV HW2 HL HH HRo HEb;cases g1:(dc==0) with
  | false =>
    go_wp2_with fail
    go_meet
    exact ⟨by rw [HD.out,g1];rfl,rfl⟩
  | true =>
    cases g2:((n:Int)==0) with
    | false =>
      go_wp2_with fail
      go_meet
      exact ⟨by rw [HD.out,g1,g2];rfl,rfl⟩
    | true =>
      go_wp2_with fail
      go_meet
      exact ⟨by rw [HD.out,g1,g2];rfl,rfl⟩
 case rest =>
 obtain ⟨rfl,rfl⟩:=hcut
 go_upto_region 2 with fail
 go_cut [4] (fun v W9=>v= .bool R∧W=W9)
 case first =>
  clear HN HV HW2 HL HH HRo HEb;cases g1:rr.toList.isEmpty with
  | false =>
    go_wp2_with fail
    go_meet
    exact ⟨by rw [HRr.out,g1];rfl,rfl⟩
  | true =>
    cases g2:((m:Int)==0) with
    | false =>
      go_wp2_with fail
      go_meet
      exact ⟨by rw [HRr.out,g1,g2];rfl,rfl⟩
    | true =>
      go_wp2_with fail
      go_meet
      exact ⟨by rw [HRr.out,g1,g2];rfl,rfl⟩
 case rest =>
 obtain ⟨rfl,rfl⟩:=hcut;have HBw:=hJ (B0.out);have HN1:=hJ (HN.out W B0.out);have HV1:=hJ (HV.out W);clear HN HV HD HRr;by_cases k1:kind=1
 · subst k1
   have HR:Hid (res=(kAW v && (bl && (R && elem.toList.isEmpty)))):=hJ (by rw [HRo.out,if_pos rfl]);clear HRo;clear HH HV1 HW2 HEb;cases hn:kAW v with
   | false =>
     rw [hn] at HN1 HR
     go_wp2_with fail
     refine (HN1.out).mono ?_;rintro e w1 ⟨rfl,hb1⟩;have y2:=kAF xa2 _ hb1;have y3:=kAF xa3 _ hb1;have y4:=kAF xa4 _ hb1;have y5:=kAF xa5 _ hb1;have y6:=kAF xa6 _ hb1;have hW:=HBw.out.trans (hb1.mono HBw.out.size);clear xa0 xa1 xa2 xa3 xa4 xa5 xa6
     go_wp2_with fail
     go_ret;exact ⟨by rw [HR.out];rfl,hW⟩
   | true =>
     rw [hn] at HN1 HR;have HLx:=hJ (fun w1 hW=>HL.out w1 hW)
     go_wp2_with fail
     refine (HN1.out).mono ?_;rintro e w1 ⟨rfl,hb1⟩;have y2:=kAF xa2 _ hb1;have y3:=kAF xa3 _ hb1;have y4:=kAF xa4 _ hb1;have y5:=kAF xa5 _ hb1;have y6:=kAF xa6 _ hb1;have hW:=HBw.out.trans (hb1.mono HBw.out.size);clear xa0 xa1 xa2 xa3 xa4 xa5 xa6
     go_wp2_with fail
     refine (HL.out _ hW).mono ?_;rintro e w2 ⟨rfl,hb2⟩;have z6:=kAF y6 _ hb2;have hW2:=hW.trans (hb2.mono hW.size);cases bl with
     | false =>
       go_wp2_with fail
       go_ret;exact ⟨by rw [HR.out];rfl,hW2⟩
     | true =>
       cases R with
       | false =>
         go_wp2_with fail
         go_ret;exact ⟨by rw [HR.out];rfl,hW2⟩
       | true =>
         go_wp2_with fail
         go_ret;exact ⟨by rw [HR.out];rfl,hW2⟩
 by_cases k2:kind=2
 · subst k2
   have HR:Hid (res=(kAW v && (bh && (D && elem.toList.isEmpty)))):=hJ (by rw [HRo.out,if_neg (by decide),if_pos rfl]);clear HRo;clear HL HV1 HW2 HEb k1;cases hn:kAW v with
   | false =>
     rw [hn] at HN1 HR
     go_wp2_with fail
     refine (HN1.out).mono ?_;rintro e w1 ⟨rfl,hb1⟩;have y2:=kAF xa2 _ hb1;have y3:=kAF xa3 _ hb1;have y4:=kAF xa4 _ hb1;have y5:=kAF xa5 _ hb1;have y6:=kAF xa6 _ hb1;have hW:=HBw.out.trans (hb1.mono HBw.out.size);clear xa0 xa1 xa2 xa3 xa4 xa5 xa6
     go_wp2_with fail
     go_ret;exact ⟨by rw [HR.out];rfl,hW⟩
   | true =>
     rw [hn] at HN1 HR
     go_wp2_with fail
     refine (HN1.out).mono ?_;rintro e w1 ⟨rfl,hb1⟩;have y2:=kAF xa2 _ hb1;have y3:=kAF xa3 _ hb1;have y4:=kAF xa4 _ hb1;have y5:=kAF xa5 _ hb1;have y6:=kAF xa6 _ hb1;have hW:=HBw.out.trans (hb1.mono HBw.out.size);clear xa0 xa1 xa2 xa3 xa4 xa5 xa6
     go_wp2_with fail
     refine (HH.out _ hW).mono ?_;rintro e w2 ⟨rfl,hb2⟩;have z6:=kAF y6 _ hb2;have hW2:=hW.trans (hb2.mono hW.size);cases bh with
     | false =>
       go_wp2_with fail
       go_ret;exact ⟨by rw [HR.out];rfl,hW2⟩
     | true =>
       cases D with
       | false =>
         go_wp2_with fail
         go_ret;exact ⟨by rw [HR.out];rfl,hW2⟩
       | true =>
         go_wp2_with fail
         go_ret;exact ⟨by rw [HR.out];rfl,hW2⟩
 by_cases k3:kind=3
 · subst k3
   have HR:Hid (res=(kAN v && (be && (D && R)))):=hJ (by rw [HRo.out,if_neg (by decide),if_neg (by decide),if_pos rfl]);clear HRo;clear HL HH HN1 k1 k2;cases hv:kAN v with
   | false =>
     rw [hv] at HV1 HR
     go_wp2_with fail
     refine (HV1.out).mono ?_;rintro e w1 ⟨rfl,hb1⟩;have y6:=kAF xa6 _ hb1;have hW:=HBw.out.trans (hb1.mono HBw.out.size);clear xa0 xa1 xa2 xa3 xa4 xa5 xa6
     go_wp2_with fail
     go_ret;exact ⟨by rw [HR.out];rfl,hW⟩
   | true =>
     rw [hv] at HV1 HR
     go_wp2_with fail
     refine (HV1.out).mono ?_;rintro e w1 ⟨rfl,hb1⟩;have y6:=kAF xa6 _ hb1;have hW:=HBw.out.trans (hb1.mono HBw.out.size);clear xa0 xa1 xa2 xa3 xa4 xa5 xa6;by_cases q1:(elem.toList==[105,110,116])=true
     · have hbe:be=true:=by rw [HEb.out,q1];rfl
       rw [hbe] at HR;clear hbe HEb;cases D with
       | false =>
         go_wp2_with fail
         go_ret;exact ⟨by rw [HR.out];rfl,hW⟩
       | true =>
         go_wp2_with fail
         go_ret;exact ⟨by rw [HR.out];rfl,hW⟩
     have q1:(elem.toList==[105,110,116])=false:=by simpa using q1
     by_cases q2:(elem.toList==[98,111,111,108])=true
     · have hbe:be=true:=by rw [HEb.out,q1,q2];rfl
       rw [hbe] at HR;clear hbe HEb;cases D with
       | false =>
         go_wp2_with fail
         go_ret;exact ⟨by rw [HR.out];rfl,hW⟩
       | true =>
         go_wp2_with fail
         go_ret;exact ⟨by rw [HR.out];rfl,hW⟩
     have q2:(elem.toList==[98,111,111,108])=false:=by simpa using q2
     have hbe:be=kAN elem:=by rw [HEb.out,q1,q2];rfl
     rw [hbe] at HR;clear hbe HEb;have HW3:=hJ (HW2.out w1);cases hz:kAN elem with
     | false =>
       rw [hz] at HW3 HR
       go_wp2_with fail
       refine (HW3.out).mono ?_;rintro e w2 ⟨rfl,hb2⟩
       go_wp2_with fail
       go_ret;exact ⟨by rw [HR.out];rfl,hW.trans (hb2.mono hW.size)⟩
     | true =>
       rw [hz] at HW3 HR
       go_wp2_with fail
       refine (HW3.out).mono ?_;rintro e w2 ⟨rfl,hb2⟩;have hW2:=hW.trans (hb2.mono hW.size);cases D with
       | false =>
         go_wp2_with fail
         go_ret;exact ⟨by rw [HR.out];rfl,hW2⟩
       | true =>
         go_wp2_with fail
         go_ret;exact ⟨by rw [HR.out];rfl,hW2⟩
 · have HR:Hid (res=false):=hJ (by rw [HRo.out,if_neg k1,if_neg k2,if_neg k3])
   clear HRo
   go_wp2_with fail
   go_ret;exact ⟨by rw [HR.out];rfl,B0.out⟩
end Go.Proofs.YtkndimjghfomcaaGreatDoor
