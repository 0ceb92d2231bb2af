/- The claim's texts, part U6: contracts of the functions that the statement reaches, and what they say of the data. -/
import Derived.Test.YtcjfagnlmlkedaaGreatDoorU5
set_option maxRecDepth 100000
set_option maxHeartbeats 8000000
set_option linter.all false
namespace Go.Proofs.YtcjfagnlmlkedaaGreatDoor
open Go.Proofs.Tryz
open Go.RowKit
theorem kC5 {S:Blk} {s:Sch} {cs:List Value} {w:World} (h:RSch.rd S w cs s) (hz:szS s) (hwl:kAI s=true→s.wh.length≤12) (E:Env w) :
 Calls Tryz.prog 6 #[.agg cs.toArray] w fun e w'=>(∃ ds,e= .returned (.tuple #[.agg ds.toArray,.int .i64 (kDF s)])∧RSch.rd (fun q=>w.heap.size≤q) w' ds (can s))∧Below w.heap.size w w':=by
 have HV:Hid (∀ W,Below w.heap.size w W→Calls Tryz.prog 16 #[.agg cs.toArray] W fun e w'=>e= .returned (.bool (kAI s))∧Below W.heap.size W w') :=
  hJ (fun W hW=>kBK (RSch.below h hW) hz (E.below hW))
 have HE:=hJ (fun (W:World) (hW:Below w.heap.size w W)=>E.below hW);have HSc:=hJ (fun (W:World) (hW:Below w.heap.size w W)=>RSch.below h hW);cases hv:kAI s with
 | false =>
   rw [hv] at HV;have HBd:=hJ (can_no hv);obtain ⟨p,t,q,rfl,⟨ap,cp,rfl,_⟩,⟨at_,ct,rfl,_⟩,⟨aq,cq,rfl,_⟩⟩:=h;clear hv;obtain ⟨B0,ya,yb,hW0⟩:=box2 w 29 [.slice ap s.params.length cp,.string s.result.elem,.string s.result.shape.row,.slice at_ s.result.shape.dims.length ct,.slice aq s.wh.length cq] 29 [.slice none 0 0,.string ⟨#[]⟩,.string ⟨#[]⟩,.slice none 0 0,.slice none 0 0];have xa0:=box0 ya 0 _ rfl;have xa1:=box0 ya 1 _ rfl;have xa2:=box0 ya 2 _ rfl;have xa3:=box0 ya 3 _ rfl;have xa4:=box0 ya 4 _ rfl;have xb0:=box0 yb 0 _ rfl;have xb1:=box0 yb 1 _ rfl;have xb2:=box0 yb 2 _ rfl;have xb3:=box0 yb 3 _ rfl;have xb4:=box0 yb 4 _ rfl;have bka:Bx _ _ _ _:=ya;have bkb:Bx _ _ _ _:=yb;clear ya yb;have HR0:=hJ bkb;clear bka bkb;go_enter func6,ntmps6
   go_wp2_with fail
   refine (HV.out _ B0.out).mono ?_;rintro e w1 ⟨rfl,hb1⟩;have HRw:=hJ (HR0.out.below hb1 HR0.out.lt);have HWw:Hid (Below w.heap.size w w1):=hJ (B0.out.trans (hb1.mono B0.out.size));clear xa0 xa1 xa2 xa3 xa4 xb0 xb1 xb2 xb3 xb4 hb1 HR0 B0 HV;have v0:=HRw.out.cell 0 _ rfl;have v1:=HRw.out.cell 1 _ rfl;have v2:=HRw.out.cell 2 _ rfl;have v3:=HRw.out.cell 3 _ rfl;have v4:=HRw.out.cell 4 _ rfl;have u0:=HRw.out.fz 0;have u1:=HRw.out.fz 1;have u2:=HRw.out.fz 2;have u3:=HRw.out.fz 3;have u4:=HRw.out.fz 4;have hlr:=HRw.out.lt;have HX60:=hJ (((((HRw.out.set 0 (.slice none 0 0)).set 1 (.string ⟨#[]⟩)).set 2 (.string ⟨#[]⟩)).set 3 (.slice none 0 0)).set 4 (.slice none 0 0));have s0:=HX60.out.cell 0 _ rfl;have s1:=HX60.out.cell 1 _ rfl;have s2:=HX60.out.cell 2 _ rfl;have s3:=HX60.out.cell 3 _ rfl;have s4:=HX60.out.cell 4 _ rfl
   go_wp2_with fail
   refine bodyPost_ret (v:=.tuple #[.agg #[.slice none 0 0,.string ⟨#[]⟩,.string ⟨#[]⟩,.slice none 0 0,.slice none 0 0],.int .i64 1]) (by simp [results,results6,go_sem,s0,s1,s2,s3,s4,hlr]) rfl ?_;refine ⟨⟨[.slice none 0 0,.string ⟨#[]⟩,.string ⟨#[]⟩,.slice none 0 0,.slice none 0 0],by rw [HBd.out.1],by rw [HBd.out.2];exact (kE8.no _ _).rd⟩,?_⟩
   repeat (first | exact HWw.out | refine Below.setCell ?_ (by show _≤w.heap.size+1;omega) _)
 | true =>
   rw [hv] at HV
   have HCV:Hid (∀ W,Below w.heap.size w W→Calls Tryz.prog 20 #[.agg cs.toArray] W fun e w'=>(∃ v,e= .returned v∧Own RBnd 42 (fun _=>False) w' W.heap.size v (kAG s))∧Below W.heap.size W w') :=
    hJ (fun W hW=>types_Vars (HSc.out W hW) hv (HE.out W hW))
   have HInv:=hJ (kA5 hv);have HLen:=hJ (kB3 (s:=s));have HCS:=hJ (fun (W:World) (hW:Below w.heap.size w W) (T:Blk) (a:Option Addr) (nb cb:Nat) (hbs:Sl RBnd T W a nb cb (ren (kAG s)))=>kFF (HSc.out W hW) hv (ren (kAG s)) a nb cb hbs (kIG hv) (HE.out W hW));have HBad:=hJ (fun q=>can_bad hv q);have HGood:=hJ (fun q=>can_good hv q);have HWL:Hid (s.wh.length≤12):=hJ (hwl hv);obtain ⟨p,t,q,rfl,⟨ap,cp,rfl,_⟩,⟨at_,ct,rfl,_⟩,⟨aq,cq,rfl,_⟩⟩:=h;clear hv hwl HSc E;generalize kAG s=L at *;obtain ⟨B0,ya,yb,hW0⟩:=box2 w 29 [.slice ap s.params.length cp,.string s.result.elem,.string s.result.shape.row,.slice at_ s.result.shape.dims.length ct,.slice aq s.wh.length cq] 29 [.slice none 0 0,.string ⟨#[]⟩,.string ⟨#[]⟩,.slice none 0 0,.slice none 0 0];have xa0:=box0 ya 0 _ rfl;have xa1:=box0 ya 1 _ rfl;have xa2:=box0 ya 2 _ rfl;have xa3:=box0 ya 3 _ rfl;have xa4:=box0 ya 4 _ rfl;have xb0:=box0 yb 0 _ rfl;have xb1:=box0 yb 1 _ rfl;have xb2:=box0 yb 2 _ rfl;have xb3:=box0 yb 3 _ rfl;have xb4:=box0 yb 4 _ rfl;have bka:Bx _ _ _ _:=ya;have bkb:Bx _ _ _ _:=yb;clear ya yb;have HA0:=hJ bka;have HR0:=hJ bkb;clear bka bkb;go_enter func6,ntmps6
   go_wp2_with fail
   refine (HV.out _ B0.out).mono ?_;rintro e w1 ⟨rfl,hb1⟩;have HA1:=hJ (HA0.out.below hb1 HA0.out.lt);have HR1:=hJ (HR0.out.below hb1 HR0.out.lt);have HW1:Hid (Below w.heap.size w w1):=hJ (B0.out.trans (hb1.mono B0.out.size));have hz1:w.heap.size+2≤w1.heap.size:=by have:=hb1.size;simpa using this
   clear xa0 xa1 xa2 xa3 xa4 xb0 xb1 xb2 xb3 xb4 hb1 HR0 HA0 B0 HV hW0;have y0:=HA1.out.cell 0 _ rfl;have y1:=HA1.out.cell 1 _ rfl;have y2:=HA1.out.cell 2 _ rfl;have y3:=HA1.out.cell 3 _ rfl;have y4:=HA1.out.cell 4 _ rfl;have hl1:=HA1.out.lt;have HBa:Hid (Below w1.heap.size w1 (w1.alloc (.cells #[.int .i64 0,.int .i64 0,.int .i64 0,.int .i64 0] 55))):=hJ ((zB _ _).alloc (zR _) _)
   go_wp2_with fail
   refine (HCV.out _ (HW1.out.trans (HBa.out.mono HW1.out.size))).mono ?_;rintro e w2 ⟨⟨v,rfl,hown⟩,hb2⟩;obtain ⟨a5,c5,rfl,_⟩:=hown.sl;have HB2:=hJ (HBa.out.trans (hb2.mono HBa.out.size));have HG2:Hid (Bx w2 w1.heap.size 55 (cntV L 0)):=hJ (by rw [cntV_zero];exact (Bx.fresh w1 55 [.int .i64 0,.int .i64 0,.int .i64 0,.int .i64 0]).below hb2 (by simp));have HA2:=hJ (HA1.out.below HB2.out HA1.out.lt);have HR2:=hJ (HR1.out.below HB2.out HR1.out.lt);have HW2:=hJ (HW1.out.trans (HB2.out.mono HW1.out.size));have hz2:w1.heap.size+1≤w2.heap.size:=by have:=hb2.size;simpa using this
   have HO2:Hid (Own RBnd 42 (fun q=>w2.heap.size≤q) w2 (w1.heap.size+1) (.slice a5 L.length c5) (kF3 L 0)):=hJ (by have:=hown.mono (S':=fun q=>w2.heap.size≤q) (fun k hk _=>hk.elim);simpa [renUp_zero] using this);have HSm:L.length≤3000:=HLen.out;clear hown hb2 y0 y1 y2 y3 y4 HCV HA1 HR1 hl1 HBa;generalize hn:L.length=n at *;have HN:=hJ hn;clear hn
   go_wp2_with fail
   go_loopw [19] (fun iv wr=>∃ k:Nat,k≤n∧iv= .int .i64 k∧Hid (Own RBnd 42 (fun q=>w2.heap.size≤q) wr (w1.heap.size+1) (.slice a5 n c5) (kF3 L k))∧Hid (Bx wr w1.heap.size 55 (cntV L k))∧Hid (∀ q,q<w2.heap.size→q≠w1.heap.size→(Value.slice a5 n c5).ownBlock≠some q→wr.heap[q]? =w2.heap[q]?)∧Below w.heap.size w wr∧w2.heap.size≤wr.heap.size) (fun iv _=>n - (intOf iv).toNat)
   case atStart=>exact ⟨0,Nat.zero_le _,rfl,HO2,HG2,hJ (fun _ _ _ _=>rfl),HW2.out,zR _⟩
   case round =>
    obtain ⟨k,hk,rfl,HO,HG,HK,hB,hsz⟩:=hrel;by_cases hlt:k<n
    · have hkl:k<L.length:=by rw [HN.out];exact hlt
      obtain ⟨gb,c',css,rest,hv,hgb,hR,hL,hlc,hcm,hsl⟩:=HO.out.raw (by rw [kDV (by omega)];omega);rw [Value.slice.injEq] at hv;obtain ⟨rfl,-,rfl⟩:=hv;rw [kDV (by omega),HN.out] at hlc;obtain ⟨cs,hi,hr⟩:=hL.2 k _ (renUp_at hkl);have HGood2:=hJ (HInv.out.good _ (kAM hkl));have HRen:=hJ (renAt1 hkl HGood2.out.1);have HNext:=hJ (renUp_next hkl);have hL3:L.length≤3000:=by rw [HN.out];exact HSm
      have hc1:=kJB hL3 1 k;have hc2:=kJB hL3 2 k;have hc3:=kJB hL3 3 k;have HCV0:Hid (cntV L k=[.int .i64 0,.int .i64 (cntK 1 (L.take k)),.int .i64 (cntK 2 (L.take k)),.int .i64 (cntK 3 (L.take k))]):=hJ rfl;obtain ⟨kd,nv,hx⟩:∃ kd nv,L.getD k default=⟨kd,nv,⟨0,[]⟩,⟨⟨#[]⟩,[]⟩,⟨#[]⟩⟩:=⟨_,_,HGood2.out.1⟩
      rw [hx] at HRen HGood2 hr;obtain ⟨t,d,rfl,⟨ta,tc,rfl,hta⟩,⟨da,dc,rfl,hda⟩⟩:=hr;have hi:css[k]? =some [.int .i64 kd,.string nv,.int .i64 0,.slice ta 0 tc,.string ⟨#[]⟩,.slice da 0 dc,.string ⟨#[]⟩]:=hi;have HI:=hJ hi;have HTa:Hid (tc≤maxLen∧(ta=none→tc=0)):=hJ ⟨hta.max,hta.nil⟩;have HDa:Hid (dc≤maxLen∧(da=none→dc=0)):=hJ ⟨hda.max,hda.nil⟩;have hok:=HGood2.out.2;have HR:Hid (Raw 7 42 wr gb css rest):=hJ hR;have HL:=hJ hL;have HSl:Hid (css.length * 7+rest.length=c5 * 7):=hJ hsl;have hgl:=hR.lt;have hgne:w1.heap.size≠gb:=by omega
      obtain ⟨y,hy⟩:∃ y,kE9 L k=y:=⟨_,rfl⟩
      have HYe:=hJ hy;rw [hy] at HNext;obtain ⟨n1,hn1⟩:∃ q,cntK 1 (L.take k)=q:=⟨_,rfl⟩
      obtain ⟨n2,hn2⟩:∃ q,cntK 2 (L.take k)=q:=⟨_,rfl⟩
      obtain ⟨n3,hn3'⟩:∃ q,cntK 3 (L.take k)=q:=⟨_,rfl⟩
      have HCe:Hid (cntK 1 (L.take k)=n1∧cntK 2 (L.take k)=n2∧cntK 3 (L.take k)=n3):=hJ ⟨hn1,hn2,hn3'⟩;rw [hn1] at hc1;rw [hn2] at hc2;rw [hn3'] at hc3;rw [hn1,hn2,hn3'] at HCV0;have HGq:=hJ (HCV0.out ▸ HG.out);have HOl:Hid (∀ q,q<w2.heap.size→(Value.slice (some ⟨gb,0,none⟩) n c5).ownBlock≠some q→q≠gb):=hJ (fun q _ h e=>h (by rw [e];rfl));clear hn1 hn2 hn3' hx hkl hta hda hR hL hsl hi hL3 HGood2 hy HO HG;rcases hok with ⟨hok,hnm⟩ | ⟨hok,hnm⟩ | ⟨hok,hnm⟩
      · skip
        have hkd:kd=1:=hok;subst hkd;have HR1':=hJ (HRen.out.at1 rfl);rw [HCe.out.1] at HR1';clear HRen;have e0:=HR.out.cell HI.out 0 _ rfl;rw [Nat.add_zero] at e0;have g1:=HGq.out.cell 1 _ rfl;have v1:=HGq.out.fz 1;have HGb:=hJ (HGq.out.set 1 (.int .i64 ((n1:Int)+1)));have HRb:Hid (Raw 7 42 (wr.setCell ⟨w1.heap.size,1,none⟩ (.int .i64 ((n1:Int)+1))) gb css rest):=hJ (HR.out.other (by show w1.heap.size≠gb;exact hgne));have HKb:Hid (∀ q,q<wr.heap.size→q≠w1.heap.size→(wr.setCell ⟨w1.heap.size,1,none⟩ (.int .i64 ((n1:Int)+1))).heap[q]? =wr.heap[q]?):=hJ (fun q hq hne=>kAA (fun e=>hne e.symm));have HBb:Hid (Below w.heap.size w (wr.setCell ⟨w1.heap.size,1,none⟩ (.int .i64 ((n1:Int)+1)))):=hJ (hB.setCell (by show w.heap.size≤w1.heap.size;omega) _);have HZb:Hid ((wr.setCell ⟨w1.heap.size,1,none⟩ (.int .i64 ((n1:Int)+1))).heap.size=wr.heap.size):=hJ (by simp)
        go_wp2_with fail
        have f0:=HRb.out.cell HI.out 0 _ rfl;have h1:=HGb.out.cell 1 _ rfl;rw [Nat.add_zero] at f0;clear e0 g1 v1;generalize (wr.setCell ⟨w1.heap.size,1,none⟩ (.int .i64 ((n1:Int)+1)))=wb at *
        have HIt:Hid (∀ t:Later wb,Calls Tryz.prog 21 #[.int .i64 ((n1:Int)+1)] t.w fun e w'=>e= .returned (.string (decS (n1+1)))∧Below t.w.heap.size t.w w'):=hJ (fun t=>by
         have h:=itoa_nat (n1+1) (by omega) t.w ((HE.out wb HBb.out).at_ t)
         rwa [Int.natCast_add,Int.natCast_one] at h)
        have hds:(decS (n1+1)).size≤6:=by
         show (Lib.decDigits (n1+1)).length≤6
         exact kGF 5 _ (by omega)
        have HNm:Hid (∀ c:UInt8,(⟨#[c]⟩:Str)++decS (n1+1)=nm c (n1+1)):=hJ (fun c=>rfl);generalize decS (n1+1)=dd at *;have F0:=Later.cell f0;have H1:=Later.cell h1;clear f0 h1;have hix:∀ W:World,(Instr.index 57 (.agg #[.string ⟨#[]⟩,.string ⟨#[110]⟩,.string ⟨#[114]⟩,.string ⟨#[65]⟩]) (.int .i64 1)).run Tryz.prog W= .ok (.string ⟨#[110]⟩) W:=fun W=>by kernel_rfl
        refine kAC (by kernel_rfl) (by kernel_rfl) ?_
        repeat (go_big_quiet_step (first | fail | exact Later.call (HIt.out _)))
        refine wpQuiet_nil ?_;rintro _ ⟨t9,rfl⟩;have HBq:Hid (Below wb.heap.size wb t9.w):=hJ t9.b;generalize t9.w=wq at *;clear F0 H1 HIt;have hzb:wb.heap.size=wr.heap.size:=HZb.out;have hzq:=HBq.out.size;rw [hzb] at hzq;have HRq:=hJ (HRb.out.below HBq.out HRb.out.lt);have HGq2:=hJ (HGb.out.below HBq.out HGb.out.lt);have HKq:Hid (∀ q,q<wr.heap.size→q≠w1.heap.size→wq.heap[q]? =wr.heap[q]?):=hJ (fun q hq hne=>(HBq.out.block q (by rw [HZb.out];exact hq)).trans (HKb.out q hq hne));have HBw:Hid (Below w.heap.size w wq):=hJ (HBb.out.trans (HBq.out.mono HBb.out.size));have p0:=HRq.out.cell HI.out 0 _ rfl;rw [Nat.add_zero] at p0;clear hzb HRb HGb HKb HBb HBq HZb HR HGq
        go_wp2_with fail
        refine (linear_Var ((⟨#[110]⟩:Str)++dd) wq).mono ?_;rintro e w5 ⟨⟨_,rfl,hr5⟩,hb5⟩;obtain ⟨_,rfl,a9,c9,rfl,hs9⟩:=hr5;have HS9:=hJ hs9;have HR5:=hJ (HRq.out.below hb5 HRq.out.lt);have c2:=HR5.out.cell HI.out 2 _ rfl;have c3:=HR5.out.cell HI.out 3 _ rfl;have v2:=HR5.out.fz (k * 7+2);have v3:=HR5.out.fz (k * 7+3);have hz5:=hb5.size;have HRd:Hid (Raw 7 42 ((w5.setCell ⟨gb,k * 7+2,none⟩ (.int .i64 0)).setCell ⟨gb,k * 7+3,none⟩ (.slice a9 1 c9)) gb (css.set k [.int .i64 1,.string nv,.int .i64 0,.slice a9 1 c9,.string ⟨#[]⟩,.slice da 0 dc,.string ⟨#[]⟩]) rest):=hJ (HR5.out.set2 HI.out (by decide) (by decide) (.int .i64 0) (.slice a9 1 c9));have HGd:=hJ (((HGq2.out.below hb5 HGq2.out.lt).other (a:=⟨gb,k * 7+2,none⟩) (u:=.int .i64 0) (by show gb≠w1.heap.size;omega)).other (a:=⟨gb,k * 7+3,none⟩) (u:=.slice a9 1 c9) (by show gb≠w1.heap.size;omega));have HKd:Hid (∀ q,q<wr.heap.size→q≠w1.heap.size→q≠gb→((w5.setCell ⟨gb,k * 7+2,none⟩ (.int .i64 0)).setCell ⟨gb,k * 7+3,none⟩ (.slice a9 1 c9)).heap[q]? =wr.heap[q]?):=hJ (fun q hq hne hg=>(kAA (fun e=>hg e.symm)).trans ((kAA (fun e=>hg e.symm)).trans ((hb5.block q (by omega)).trans (HKq.out q hq hne))));have HBd:Hid (Below w.heap.size w ((w5.setCell ⟨gb,k * 7+2,none⟩ (.int .i64 0)).setCell ⟨gb,k * 7+3,none⟩ (.slice a9 1 c9))):=hJ (((HBw.out.trans (hb5.mono HBw.out.size)).setCell (by show w.heap.size≤gb;omega) _).setCell (by show w.heap.size≤gb;omega) _);have HZd:Hid (w2.heap.size≤((w5.setCell ⟨gb,k * 7+2,none⟩ (.int .i64 0)).setCell ⟨gb,k * 7+3,none⟩ (.slice a9 1 c9)).heap.size):=hJ (by simp;omega)
        have HRY:Hid (RBnd.rd (fun q=>w2.heap.size≤q∧q≠gb) ((w5.setCell ⟨gb,k * 7+2,none⟩ (.int .i64 0)).setCell ⟨gb,k * 7+3,none⟩ (.slice a9 1 c9)) [.int .i64 1,.string nv,.int .i64 0,.slice a9 1 c9,.string ⟨#[]⟩,.slice da 0 dc,.string ⟨#[]⟩] y):=hJ (by
         rw [← HYe.out,HR1'.out.1,← HNm.out];refine ⟨_,_,rfl,⟨a9,c9,rfl,?_⟩,⟨da,dc,rfl,Sl.zero HDa.out.1 HDa.out.2⟩⟩;have hne:∀ q,wq.heap.size≤q→gb≠q:=fun q hq=>by omega
         exact ((HS9.out.set (hne)).set hne).mono (fun q hq _=>⟨by have hq:wq.heap.size≤q:=hq;omega,fun e=>hne q hq e.symm⟩))
        clear hs9
        have HLz:Hid (Lies RBnd (fun q=>w2.heap.size≤q) ((w5.setCell ⟨gb,k * 7+2,none⟩ (.int .i64 0)).setCell ⟨gb,k * 7+3,none⟩ (.slice a9 1 c9)) gb (css.set k [.int .i64 1,.string nv,.int .i64 0,.slice a9 1 c9,.string ⟨#[]⟩,.slice da 0 dc,.string ⟨#[]⟩]) (kF3 L (k+1))):=hJ (by
         rw [HNext.out];exact (HL.out.frame (w':=((w5.setCell ⟨gb,k * 7+2,none⟩ (.int .i64 0)).setCell ⟨gb,k * 7+3,none⟩ (.slice a9 1 c9))) (fun q hq hne hlt=>HKd.out q hlt (by have:w2.heap.size≤q:=hq;omega) hne)).set k HRY.out)
        have HOz:Hid (Own RBnd 42 (fun q=>w2.heap.size≤q) ((w5.setCell ⟨gb,k * 7+2,none⟩ (.int .i64 0)).setCell ⟨gb,k * 7+3,none⟩ (.slice a9 1 c9)) (w1.heap.size+1) (.slice (some ⟨gb,0,none⟩) n c5) (kF3 L (k+1))):=hJ (by
         have h:=HRd.out.own HLz.out hgb (by rw [kDV (by rw [HN.out];omega),HN.out];exact hlc) hcm (by rw [List.length_set];exact HSl.out)
         rwa [kDV (by rw [HN.out];omega),HN.out] at h)
        have HGz:Hid (Bx ((w5.setCell ⟨gb,k * 7+2,none⟩ (.int .i64 0)).setCell ⟨gb,k * 7+3,none⟩ (.slice a9 1 c9)) w1.heap.size 55 (cntV L (k+1))):=hJ (by rw [HR1'.out.2,HCV0.out];exact HGd.out);have HKz:Hid (∀ q,q<w2.heap.size→q≠w1.heap.size→(Value.slice (some ⟨gb,0,none⟩) n c5).ownBlock≠some q→((w5.setCell ⟨gb,k * 7+2,none⟩ (.int .i64 0)).setCell ⟨gb,k * 7+3,none⟩ (.slice a9 1 c9)).heap[q]? =w2.heap[q]?):=hJ (fun q hq hne ho=>(HKd.out q (by omega) hne (HOl.out q hq ho)).trans (HK.out q hq hne ho))
        go_wp2_with fail
        go_roundw
        case rel=>exact ⟨k+1,by omega,by go_num,HOz,HGz,HKz,HBd.out,HZd.out⟩
        case measure=>simp [intOf];omega
      · skip
        have hkd:kd=2:=hok;subst hkd;have HR1':=hJ (HRen.out.at2 rfl);rw [HCe.out.2.1] at HR1';clear HRen;have e0:=HR.out.cell HI.out 0 _ rfl;rw [Nat.add_zero] at e0;have g1:=HGq.out.cell 2 _ rfl;have v1:=HGq.out.fz 2;have HGb:=hJ (HGq.out.set 2 (.int .i64 ((n2:Int)+1)));have HRb:Hid (Raw 7 42 (wr.setCell ⟨w1.heap.size,2,none⟩ (.int .i64 ((n2:Int)+1))) gb css rest):=hJ (HR.out.other (by show w1.heap.size≠gb;exact hgne));have HKb:Hid (∀ q,q<wr.heap.size→q≠w1.heap.size→(wr.setCell ⟨w1.heap.size,2,none⟩ (.int .i64 ((n2:Int)+1))).heap[q]? =wr.heap[q]?):=hJ (fun q hq hne=>kAA (fun e=>hne e.symm));have HBb:Hid (Below w.heap.size w (wr.setCell ⟨w1.heap.size,2,none⟩ (.int .i64 ((n2:Int)+1)))):=hJ (hB.setCell (by show w.heap.size≤w1.heap.size;omega) _);have HZb:Hid ((wr.setCell ⟨w1.heap.size,2,none⟩ (.int .i64 ((n2:Int)+1))).heap.size=wr.heap.size):=hJ (by simp)
        go_wp2_with fail
        have f0:=HRb.out.cell HI.out 0 _ rfl;have h1:=HGb.out.cell 2 _ rfl;rw [Nat.add_zero] at f0;clear e0 g1 v1;generalize (wr.setCell ⟨w1.heap.size,2,none⟩ (.int .i64 ((n2:Int)+1)))=wb at *
        have HIt:Hid (∀ t:Later wb,Calls Tryz.prog 21 #[.int .i64 ((n2:Int)+1)] t.w fun e w'=>e= .returned (.string (decS (n2+1)))∧Below t.w.heap.size t.w w'):=hJ (fun t=>by
         have h:=itoa_nat (n2+1) (by omega) t.w ((HE.out wb HBb.out).at_ t)
         rwa [Int.natCast_add,Int.natCast_one] at h)
        have hds:(decS (n2+1)).size≤6:=by
         show (Lib.decDigits (n2+1)).length≤6
         exact kGF 5 _ (by omega)
        have HNm:Hid (∀ c:UInt8,(⟨#[c]⟩:Str)++decS (n2+1)=nm c (n2+1)):=hJ (fun c=>rfl);generalize decS (n2+1)=dd at *;have F0:=Later.cell f0;have H1:=Later.cell h1;clear f0 h1;have hix:∀ W:World,(Instr.index 57 (.agg #[.string ⟨#[]⟩,.string ⟨#[110]⟩,.string ⟨#[114]⟩,.string ⟨#[65]⟩]) (.int .i64 2)).run Tryz.prog W= .ok (.string ⟨#[114]⟩) W:=fun W=>by kernel_rfl
        refine kAC (by kernel_rfl) (by kernel_rfl) ?_
        repeat (go_big_quiet_step (first | fail | exact Later.call (HIt.out _)))
        refine wpQuiet_nil ?_;rintro _ ⟨t9,rfl⟩;have HBq:Hid (Below wb.heap.size wb t9.w):=hJ t9.b;generalize t9.w=wq at *;clear F0 H1 HIt;have hzb:wb.heap.size=wr.heap.size:=HZb.out;have hzq:=HBq.out.size;rw [hzb] at hzq;have HRq:=hJ (HRb.out.below HBq.out HRb.out.lt);have HGq2:=hJ (HGb.out.below HBq.out HGb.out.lt);have HKq:Hid (∀ q,q<wr.heap.size→q≠w1.heap.size→wq.heap[q]? =wr.heap[q]?):=hJ (fun q hq hne=>(HBq.out.block q (by rw [HZb.out];exact hq)).trans (HKb.out q hq hne));have HBw:Hid (Below w.heap.size w wq):=hJ (HBb.out.trans (HBq.out.mono HBb.out.size));have p0:=HRq.out.cell HI.out 0 _ rfl;rw [Nat.add_zero] at p0;clear hzb HRb HGb HKb HBb HBq HZb HR HGq;have c4:=HRq.out.cell HI.out 4 _ rfl;have v4:=HRq.out.fz (k * 7+4);have HRd:Hid (Raw 7 42 (wq.setCell ⟨gb,k * 7+4,none⟩ (.string ((⟨#[114]⟩:Str)++dd))) gb (css.set k [.int .i64 2,.string nv,.int .i64 0,.slice ta 0 tc,.string ((⟨#[114]⟩:Str)++dd),.slice da 0 dc,.string ⟨#[]⟩]) rest):=hJ (HRq.out.set HI.out (j:=4) (by decide) _);have HGd:=hJ (HGq2.out.other (a:=⟨gb,k * 7+4,none⟩) (u:=.string ((⟨#[114]⟩:Str)++dd)) (by show gb≠w1.heap.size;omega));have HKd:Hid (∀ q,q<wr.heap.size→q≠w1.heap.size→q≠gb→(wq.setCell ⟨gb,k * 7+4,none⟩ (.string ((⟨#[114]⟩:Str)++dd))).heap[q]? =wr.heap[q]?):=hJ (fun q hq hne hg=>(kAA (fun e=>hg e.symm)).trans (HKq.out q hq hne));have HBd:Hid (Below w.heap.size w (wq.setCell ⟨gb,k * 7+4,none⟩ (.string ((⟨#[114]⟩:Str)++dd)))):=hJ (HBw.out.setCell (by show w.heap.size≤gb;omega) _);have HZd:Hid (w2.heap.size≤(wq.setCell ⟨gb,k * 7+4,none⟩ (.string ((⟨#[114]⟩:Str)++dd))).heap.size):=hJ (by simp;omega)
        have HRY:Hid (RBnd.rd (fun q=>w2.heap.size≤q∧q≠gb) (wq.setCell ⟨gb,k * 7+4,none⟩ (.string ((⟨#[114]⟩:Str)++dd))) [.int .i64 2,.string nv,.int .i64 0,.slice ta 0 tc,.string ((⟨#[114]⟩:Str)++dd),.slice da 0 dc,.string ⟨#[]⟩] y):=hJ (by
         rw [← HYe.out,HR1'.out.1,← HNm.out];exact ⟨_,_,rfl,⟨ta,tc,rfl,Sl.zero HTa.out.1 HTa.out.2⟩,⟨da,dc,rfl,Sl.zero HDa.out.1 HDa.out.2⟩⟩)
        have HLz:Hid (Lies RBnd (fun q=>w2.heap.size≤q) (wq.setCell ⟨gb,k * 7+4,none⟩ (.string ((⟨#[114]⟩:Str)++dd))) gb (css.set k [.int .i64 2,.string nv,.int .i64 0,.slice ta 0 tc,.string ((⟨#[114]⟩:Str)++dd),.slice da 0 dc,.string ⟨#[]⟩]) (kF3 L (k+1))):=hJ (by
         rw [HNext.out];exact (HL.out.frame (w':=(wq.setCell ⟨gb,k * 7+4,none⟩ (.string ((⟨#[114]⟩:Str)++dd)))) (fun q hq hne hlt=>HKd.out q hlt (by have:w2.heap.size≤q:=hq;omega) hne)).set k HRY.out)
        have HOz:Hid (Own RBnd 42 (fun q=>w2.heap.size≤q) (wq.setCell ⟨gb,k * 7+4,none⟩ (.string ((⟨#[114]⟩:Str)++dd))) (w1.heap.size+1) (.slice (some ⟨gb,0,none⟩) n c5) (kF3 L (k+1))):=hJ (by
         have h:=HRd.out.own HLz.out hgb (by rw [kDV (by rw [HN.out];omega),HN.out];exact hlc) hcm (by rw [List.length_set];exact HSl.out)
         rwa [kDV (by rw [HN.out];omega),HN.out] at h)
        have HGz:Hid (Bx (wq.setCell ⟨gb,k * 7+4,none⟩ (.string ((⟨#[114]⟩:Str)++dd))) w1.heap.size 55 (cntV L (k+1))):=hJ (by rw [HR1'.out.2,HCV0.out];exact HGd.out);have HKz:Hid (∀ q,q<w2.heap.size→q≠w1.heap.size→(Value.slice (some ⟨gb,0,none⟩) n c5).ownBlock≠some q→(wq.setCell ⟨gb,k * 7+4,none⟩ (.string ((⟨#[114]⟩:Str)++dd))).heap[q]? =w2.heap[q]?):=hJ (fun q hq hne ho=>(HKd.out q (by omega) hne (HOl.out q hq ho)).trans (HK.out q hq hne ho))
        go_wp2_with fail
        go_roundw
        case rel=>exact ⟨k+1,by omega,by go_num,HOz,HGz,HKz,HBd.out,HZd.out⟩
        case measure=>simp [intOf];omega
      · skip
        have hkd:kd=3:=hok;subst hkd;have HR1':=hJ (HRen.out.at3 rfl);rw [HCe.out.2.2] at HR1';clear HRen;have e0:=HR.out.cell HI.out 0 _ rfl;rw [Nat.add_zero] at e0;have g1:=HGq.out.cell 3 _ rfl;have v1:=HGq.out.fz 3;have HGb:=hJ (HGq.out.set 3 (.int .i64 ((n3:Int)+1)));have HRb:Hid (Raw 7 42 (wr.setCell ⟨w1.heap.size,3,none⟩ (.int .i64 ((n3:Int)+1))) gb css rest):=hJ (HR.out.other (by show w1.heap.size≠gb;exact hgne));have HKb:Hid (∀ q,q<wr.heap.size→q≠w1.heap.size→(wr.setCell ⟨w1.heap.size,3,none⟩ (.int .i64 ((n3:Int)+1))).heap[q]? =wr.heap[q]?):=hJ (fun q hq hne=>kAA (fun e=>hne e.symm));have HBb:Hid (Below w.heap.size w (wr.setCell ⟨w1.heap.size,3,none⟩ (.int .i64 ((n3:Int)+1)))):=hJ (hB.setCell (by show w.heap.size≤w1.heap.size;omega) _);have HZb:Hid ((wr.setCell ⟨w1.heap.size,3,none⟩ (.int .i64 ((n3:Int)+1))).heap.size=wr.heap.size):=hJ (by simp)
        go_wp2_with fail
        have f0:=HRb.out.cell HI.out 0 _ rfl;have h1:=HGb.out.cell 3 _ rfl;rw [Nat.add_zero] at f0;clear e0 g1 v1;generalize (wr.setCell ⟨w1.heap.size,3,none⟩ (.int .i64 ((n3:Int)+1)))=wb at *
        have HIt:Hid (∀ t:Later wb,Calls Tryz.prog 21 #[.int .i64 ((n3:Int)+1)] t.w fun e w'=>e= .returned (.string (decS (n3+1)))∧Below t.w.heap.size t.w w'):=hJ (fun t=>by
         have h:=itoa_nat (n3+1) (by omega) t.w ((HE.out wb HBb.out).at_ t)
         rwa [Int.natCast_add,Int.natCast_one] at h)
        have hds:(decS (n3+1)).size≤6:=by
         show (Lib.decDigits (n3+1)).length≤6
         exact kGF 5 _ (by omega)
        have HNm:Hid (∀ c:UInt8,(⟨#[c]⟩:Str)++decS (n3+1)=nm c (n3+1)):=hJ (fun c=>rfl);generalize decS (n3+1)=dd at *;have F0:=Later.cell f0;have H1:=Later.cell h1;clear f0 h1;have hix:∀ W:World,(Instr.index 57 (.agg #[.string ⟨#[]⟩,.string ⟨#[110]⟩,.string ⟨#[114]⟩,.string ⟨#[65]⟩]) (.int .i64 3)).run Tryz.prog W= .ok (.string ⟨#[65]⟩) W:=fun W=>by kernel_rfl
        refine kAC (by kernel_rfl) (by kernel_rfl) ?_
        repeat (go_big_quiet_step (first | fail | exact Later.call (HIt.out _)))
        refine wpQuiet_nil ?_;rintro _ ⟨t9,rfl⟩;have HBq:Hid (Below wb.heap.size wb t9.w):=hJ t9.b;generalize t9.w=wq at *;clear F0 H1 HIt;have hzb:wb.heap.size=wr.heap.size:=HZb.out;have hzq:=HBq.out.size;rw [hzb] at hzq;have HRq:=hJ (HRb.out.below HBq.out HRb.out.lt);have HGq2:=hJ (HGb.out.below HBq.out HGb.out.lt);have HKq:Hid (∀ q,q<wr.heap.size→q≠w1.heap.size→wq.heap[q]? =wr.heap[q]?):=hJ (fun q hq hne=>(HBq.out.block q (by rw [HZb.out];exact hq)).trans (HKb.out q hq hne));have HBw:Hid (Below w.heap.size w wq):=hJ (HBb.out.trans (HBq.out.mono HBb.out.size));have p0:=HRq.out.cell HI.out 0 _ rfl;rw [Nat.add_zero] at p0;clear hzb HRb HGb HKb HBb HBq HZb HR HGq;have c6:=HRq.out.cell HI.out 6 _ rfl;have v6:=HRq.out.fz (k * 7+6);have HRd:Hid (Raw 7 42 (wq.setCell ⟨gb,k * 7+6,none⟩ (.string ((⟨#[65]⟩:Str)++dd))) gb (css.set k [.int .i64 3,.string nv,.int .i64 0,.slice ta 0 tc,.string ⟨#[]⟩,.slice da 0 dc,.string ((⟨#[65]⟩:Str)++dd)]) rest):=hJ (HRq.out.set HI.out (j:=6) (by decide) _);have HGd:=hJ (HGq2.out.other (a:=⟨gb,k * 7+6,none⟩) (u:=.string ((⟨#[65]⟩:Str)++dd)) (by show gb≠w1.heap.size;omega));have HKd:Hid (∀ q,q<wr.heap.size→q≠w1.heap.size→q≠gb→(wq.setCell ⟨gb,k * 7+6,none⟩ (.string ((⟨#[65]⟩:Str)++dd))).heap[q]? =wr.heap[q]?):=hJ (fun q hq hne hg=>(kAA (fun e=>hg e.symm)).trans (HKq.out q hq hne));have HBd:Hid (Below w.heap.size w (wq.setCell ⟨gb,k * 7+6,none⟩ (.string ((⟨#[65]⟩:Str)++dd)))):=hJ (HBw.out.setCell (by show w.heap.size≤gb;omega) _);have HZd:Hid (w2.heap.size≤(wq.setCell ⟨gb,k * 7+6,none⟩ (.string ((⟨#[65]⟩:Str)++dd))).heap.size):=hJ (by simp;omega)
        have HRY:Hid (RBnd.rd (fun q=>w2.heap.size≤q∧q≠gb) (wq.setCell ⟨gb,k * 7+6,none⟩ (.string ((⟨#[65]⟩:Str)++dd))) [.int .i64 3,.string nv,.int .i64 0,.slice ta 0 tc,.string ⟨#[]⟩,.slice da 0 dc,.string ((⟨#[65]⟩:Str)++dd)] y):=hJ (by
         rw [← HYe.out,HR1'.out.1,← HNm.out];exact ⟨_,_,rfl,⟨ta,tc,rfl,Sl.zero HTa.out.1 HTa.out.2⟩,⟨da,dc,rfl,Sl.zero HDa.out.1 HDa.out.2⟩⟩)
        have HLz:Hid (Lies RBnd (fun q=>w2.heap.size≤q) (wq.setCell ⟨gb,k * 7+6,none⟩ (.string ((⟨#[65]⟩:Str)++dd))) gb (css.set k [.int .i64 3,.string nv,.int .i64 0,.slice ta 0 tc,.string ⟨#[]⟩,.slice da 0 dc,.string ((⟨#[65]⟩:Str)++dd)]) (kF3 L (k+1))):=hJ (by
         rw [HNext.out];exact (HL.out.frame (w':=(wq.setCell ⟨gb,k * 7+6,none⟩ (.string ((⟨#[65]⟩:Str)++dd)))) (fun q hq hne hlt=>HKd.out q hlt (by have:w2.heap.size≤q:=hq;omega) hne)).set k HRY.out)
        have HOz:Hid (Own RBnd 42 (fun q=>w2.heap.size≤q) (wq.setCell ⟨gb,k * 7+6,none⟩ (.string ((⟨#[65]⟩:Str)++dd))) (w1.heap.size+1) (.slice (some ⟨gb,0,none⟩) n c5) (kF3 L (k+1))):=hJ (by
         have h:=HRd.out.own HLz.out hgb (by rw [kDV (by rw [HN.out];omega),HN.out];exact hlc) hcm (by rw [List.length_set];exact HSl.out)
         rwa [kDV (by rw [HN.out];omega),HN.out] at h)
        have HGz:Hid (Bx (wq.setCell ⟨gb,k * 7+6,none⟩ (.string ((⟨#[65]⟩:Str)++dd))) w1.heap.size 55 (cntV L (k+1))):=hJ (by rw [HR1'.out.2,HCV0.out];exact HGd.out);have HKz:Hid (∀ q,q<w2.heap.size→q≠w1.heap.size→(Value.slice (some ⟨gb,0,none⟩) n c5).ownBlock≠some q→(wq.setCell ⟨gb,k * 7+6,none⟩ (.string ((⟨#[65]⟩:Str)++dd))).heap[q]? =w2.heap[q]?):=hJ (fun q hq hne ho=>(HKd.out q (by omega) hne (HOl.out q hq ho)).trans (HK.out q hq hne ho))
        go_wp2_with fail
        go_roundw
        case rel=>exact ⟨k+1,by omega,by go_num,HOz,HGz,HKz,HBd.out,HZd.out⟩
        case measure=>simp [intOf];omega
    · obtain rfl:k=n:=by omega
      have HAll:kF3 L k=ren L:=by rw [← HN.out];exact renUp_all L
      have hO:=HO.out;rw [HAll] at hO;obtain ⟨_,_,hv,hsl⟩:=hO.sl;rw [Value.slice.injEq] at hv;obtain ⟨rfl,hkr,rfl⟩:=hv;have HCw:=hJ (HCS.out wr hB _ a5 _ c5 hsl);rw [← hkr] at HCw;have hne1:(Value.slice a5 k c5).ownBlock≠some w.heap.size:=HO.out.ne (by omega);have hne2:(Value.slice a5 k c5).ownBlock≠some (w.heap.size+1):=HO.out.ne (by omega);have HAr:Hid (Bx wr _ _ _):=hJ ((HK.out w.heap.size (by omega) (by omega) hne1).trans HA2.out);have HRr:Hid (Bx wr _ _ _):=hJ ((HK.out (w.heap.size+1) (by omega) (by omega) hne2).trans HR2.out);have y0:=HAr.out.cell 0 _ rfl;have y1:=HAr.out.cell 1 _ rfl;have y2:=HAr.out.cell 2 _ rfl;have y3:=HAr.out.cell 3 _ rfl;have y4:=HAr.out.cell 4 _ rfl;have HBr:=hJ hB;have hzr:w.heap.size+2≤wr.heap.size:=by omega
      clear HAll hO hsl hkr hne1 hne2 HO HG HK hB HO2 HG2 HCS HA2 HR2 HB2;generalize hbb:ren L=b at *;clear hbb;cases hok:kBO b s with
      | false =>
        have HBd:=hJ (HBad.out hok);rw [(sch_no hok).2,(sch_no hok).1] at HCw;clear hok HGood HBad
        go_wp2_with fail
        refine HCw.out.mono ?_;rintro e w3 ⟨⟨ds,rfl,hos⟩,hb3⟩;obtain ⟨base,p,t,q,hb0,rfl,⟨ap3,cp3,rfl,_⟩,⟨at3,ct3,rfl,_⟩,hq⟩:=hos;obtain ⟨aq3,cq3,rfl,_⟩:=hq.sl;obtain ⟨w7,hfold7⟩:∃ q,w3.alloc (.cells #[.slice ap3 kEQ.params.length cp3,.string kEQ.result.elem,.string kEQ.result.shape.row,.slice at3 kEQ.result.shape.dims.length ct3,.slice aq3 kEQ.wh.length cq3] 29)=q:=⟨_,rfl⟩
        have HRw:=hJ ((HRr.out.below hb3 HRr.out.lt).alloc (.cells #[.slice ap3 kEQ.params.length cp3,.string kEQ.result.elem,.string kEQ.result.shape.row,.slice at3 kEQ.result.shape.dims.length ct3,.slice aq3 kEQ.wh.length cq3] 29));rw [hfold7] at HRw;have HWw:Hid (Below w.heap.size w w7):=hJ (by rw [← hfold7];exact (HBr.out.trans (hb3.mono HBr.out.size)).alloc (by have:=hb3.size;omega) _);clear hq;have v0:=HRw.out.cell 0 _ rfl;have v1:=HRw.out.cell 1 _ rfl;have v2:=HRw.out.cell 2 _ rfl;have v3:=HRw.out.cell 3 _ rfl;have v4:=HRw.out.cell 4 _ rfl;have u0:=HRw.out.fz 0;have u1:=HRw.out.fz 1;have u2:=HRw.out.fz 2;have u3:=HRw.out.fz 3;have u4:=HRw.out.fz 4;have hlr:=HRw.out.lt;have HX60:=hJ (((((HRw.out.set 0 (.slice none 0 0)).set 1 (.string ⟨#[]⟩)).set 2 (.string ⟨#[]⟩)).set 3 (.slice none 0 0)).set 4 (.slice none 0 0));have s0:=HX60.out.cell 0 _ rfl;have s1:=HX60.out.cell 1 _ rfl;have s2:=HX60.out.cell 2 _ rfl;have s3:=HX60.out.cell 3 _ rfl;have s4:=HX60.out.cell 4 _ rfl
        go_wp2_with fail
        refine bodyPost_ret (v:=.tuple #[.agg #[.slice none 0 0,.string ⟨#[]⟩,.string ⟨#[]⟩,.slice none 0 0,.slice none 0 0],.int .i64 3]) (by simp [results,results6,go_sem,s0,s1,s2,s3,s4,hlr]) rfl ?_;refine ⟨⟨[.slice none 0 0,.string ⟨#[]⟩,.string ⟨#[]⟩,.slice none 0 0,.slice none 0 0],by rw [HBd.out.1],by rw [HBd.out.2];exact (kE8.no _ _).rd⟩,?_⟩
        repeat (first | exact HWw.out | refine Below.setCell ?_ (by show _≤w.heap.size+1;omega) _)
      | true =>
        obtain ⟨hg0,hg1⟩:=HGood.out hok;have HG0:=hJ hg0;have HG1:=hJ hg1;have HE0:kBT b s=0:=by unfold kBT;rw [hok];rfl
        have HS1:kBG b s=kBH b s:=by unfold kBG;rw [hok];rfl
        rw [HE0,HS1] at HCw;have HSw:Hid ((kBH b s).wh=s.wh.map (kAD b)):=hJ rfl;have HSp:Hid (can s=⟨(kBH b s).params,(kBH b s).result,tidy (kBH b s).wh⟩):=hJ hg1;have hwl12:(kBH b s).wh.length≤12:=by rw [HSw.out,List.length_map];exact HWL.out
        clear hok HGood HBad hg0 hg1 HE0 HS1 HG1 HSw;generalize kBH b s=s' at *
        go_wp2_with fail
        refine HCw.out.mono ?_;rintro e w3 ⟨⟨ds,rfl,hos⟩,hb3⟩;obtain ⟨base,p,t,q,hb0,rfl,⟨ap3,cp3,rfl,hp3⟩,⟨at3,ct3,rfl,ht3⟩,hq⟩:=hos;obtain ⟨aq3,cq3,rfl,_⟩:=hq.sl;obtain ⟨w7,hfold7⟩:∃ q,w3.alloc (.cells #[.slice ap3 s'.params.length cp3,.string s'.result.elem,.string s'.result.shape.row,.slice at3 s'.result.shape.dims.length ct3,.slice aq3 s'.wh.length cq3] 29)=q:=⟨_,rfl⟩
        have HB7:Hid (Below w3.heap.size w3 w7):=hJ (by rw [← hfold7];exact (zB _ _).alloc (zR _) _);have HP7:Hid (Bx w7 w3.heap.size 29 [.slice ap3 s'.params.length cp3,.string s'.result.elem,.string s'.result.shape.row,.slice at3 s'.result.shape.dims.length ct3,.slice aq3 s'.wh.length cq3]):=hJ (by rw [← hfold7];exact Bx.fresh _ _ _);have hz3:=hb3.size;have hz7:w3.heap.size<w7.heap.size:=HP7.out.lt;have HR7:=hJ ((HRr.out.below hb3 HRr.out.lt).below HB7.out (by have:=HRr.out.lt;omega));have HW7:Hid (Below w.heap.size w w7):=hJ ((HBr.out.trans (hb3.mono HBr.out.size)).trans (HB7.out.mono (by omega)));have HOB:Hid (∀ q,(Value.slice aq3 s'.wh.length cq3).ownBlock=some q→base≤q∧q<w3.heap.size):=hJ (fun q h=>hq.block h);have HOq:Hid (Own RLin 40 (fun k=>wr.heap.size≤k∧k≠w3.heap.size) w7 wr.heap.size (.slice aq3 s'.wh.length cq3) s'.wh):=hJ ((((hq.lower hb0).mono (S':=fun k=>wr.heap.size≤k∧k≠w3.heap.size) (fun k hk hlt=>⟨by have hk:base≤k:=hk;omega,by omega⟩))).below HB7.out);have HPs:=hJ hp3;have HTs:=hJ ht3;have HDel:=hJ (delete_Lin HOq.out (by omega) (by omega) 24 (kBJ func24 rfl rfl) kGO (fun S' W x cs hr=>canonical_1 hr));have p4:=HP7.out.cell 4 _ rfl;clear hp3 ht3 hq HCw
        go_wp2_with fail
        refine HDel.out.mono ?_;rintro e w8 ⟨⟨v1,rfl,hown8,hk8⟩,hb8⟩;clear HDel;have hz8:w7.heap.size≤w8.heap.size:=hb8.size;have HN8:Hid (v1.ownBlock≠some w3.heap.size):=hJ (fun e=>(hk8.own _ e).elim (fun e=>by have:=(HOB.out _ e).2;omega) (fun e=>by omega));have HK8:Hid (∀ q,q<w7.heap.size→q≠w3.heap.size→(Value.slice aq3 s'.wh.length cq3).ownBlock≠some q→w8.heap[q]? =w7.heap[q]?):=hJ (fun q hq _ hne=>hk8.block q hq hne);have HV8:Hid (∀ q,v1.ownBlock=some q→(Value.slice aq3 s'.wh.length cq3).ownBlock=some q∨w7.heap.size≤q):=hJ hk8.own;have HP8:Hid (Bx w8 w3.heap.size _ _):=hJ ((hk8.block w3.heap.size hz7 (fun e=>by have:=(HOB.out _ e).2;omega)).trans HP7.out);have HB8:=hJ hb8;have hl8:(s'.wh.filter (fun x=> !kGO x)).length≤12:=zE (List.length_filter_le _ _) hwl12;obtain ⟨a8,m8,c8,rfl⟩:=hown8.shape;have HO8:=hJ hown8;clear hown8 hk8 hb8;have q4:=HP8.out.cell 4 _ rfl;have f4:=HP8.out.fz 4;obtain ⟨w9,hfold9⟩:∃ q,w8.setCell ⟨w3.heap.size,4,none⟩ (.slice a8 m8 c8)=q:=⟨_,rfl⟩
        have HP9:Hid (Bx w9 w3.heap.size 29 [.slice ap3 s'.params.length cp3,.string s'.result.elem,.string s'.result.shape.row,.slice at3 s'.result.shape.dims.length ct3,.slice a8 m8 c8]):=hJ (by rw [← hfold9];exact HP8.out.set 4 _);have HH9:Hid (∀ q,q≠w3.heap.size→w9.heap[q]? =w8.heap[q]?):=hJ (fun q hq=>by rw [← hfold9];exact kAA (fun e=>hq e.symm));have hz9:w9.heap.size=w8.heap.size:=by rw [← hfold9];simp
        have HO9:Hid (Own RLin 40 (fun k=>wr.heap.size≤k∧k≠w3.heap.size) w9 wr.heap.size (.slice a8 m8 c8) (s'.wh.filter (fun x=> !kGO x))):=hJ (HO8.out.frame (fun k hk h=>HH9.out k (by rcases h with h | h;exact h.2;exact fun e=>HN8.out (by rw [← e];exact h))) (by omega));have HB9:Hid (Below wr.heap.size w7 w9):=hJ (by rw [← hfold9];exact HB8.out.setCell (by show wr.heap.size≤w3.heap.size;omega) _);have HSrt:=hJ (sortFunc_Lin HO9.out (by omega) hl8 27 (kBJ func27 rfl rfl) kAX totLin.pre (fun S' T' W x y cs ds h1 h2=>linear_Compare h1 h2));have r4:=HP9.out.cell 4 _ rfl;have HZ9:=hJ hz9;clear hz9
        go_wp2_with fail
        refine HSrt.out.mono ?_;rintro e w10 ⟨⟨rfl,m,hperm,hle,hown10,hk10⟩,hb10⟩;clear HSrt;have hz10:w8.heap.size≤w10.heap.size:=by have:=hb10.size;rw [HZ9.out] at this;exact this
        have HP10:Hid (Bx w10 w3.heap.size _ _):=hJ ((hk10.block w3.heap.size HP9.out.lt HN8.out).trans HP9.out);have HK10:Hid (∀ q,q<w7.heap.size→q≠w3.heap.size→(Value.slice aq3 s'.wh.length cq3).ownBlock≠some q→w10.heap[q]? =w7.heap[q]?):=hJ (fun q hq hn ho=>(hk10.block q (by rw [HZ9.out];omega) (fun e=>(HV8.out q e).elim ho (fun e=>by omega))).trans ((HH9.out q hn).trans (HK8.out q hq hn ho)));have HB10:Hid (Below wr.heap.size w7 w10):=hJ (HB9.out.trans hb10);have hl10:m.length≤12:=by rw [hperm.length_eq];exact hl8
        have HTd:Hid (kept (newB kCN m) m m.length=tidy s'.wh):=hJ (by
         rw [← compG_kept kFV];exact comp_tidy totLin kFV kGO s'.wh m hle (fun z=>hperm.mem_iff))
        have HCpt:=hJ (compact_Lin hown10 (by omega) (by omega) 29 (kBJ func29 rfl rfl) kCN (fun S' T' W x y cs ds h1 h2=>types_same h1 h2));rw [HTd.out] at HCpt;have t4:=HP10.out.cell 4 _ rfl;clear hperm hle hown10 hk10 hb10 hl8 hl10 HTd
        go_wp2_with fail
        refine HCpt.out.mono ?_;rintro e w11 ⟨⟨v2,rfl,hown11,hk11⟩,hb11⟩;clear HCpt;have hz11:w10.heap.size≤w11.heap.size:=hb11.size;obtain ⟨a11,c11,rfl,hs11⟩:=hown11.sl;have HP11:Hid (Bx w11 w3.heap.size _ _):=hJ ((hk11.block w3.heap.size HP10.out.lt HN8.out).trans HP10.out);have HK11:Hid (∀ q,q<w7.heap.size→q≠w3.heap.size→(Value.slice aq3 s'.wh.length cq3).ownBlock≠some q→w11.heap[q]? =w7.heap[q]?):=hJ (fun q hq hn ho=>(hk11.block q (by omega) (fun e=>(HV8.out q e).elim ho (fun e=>by omega))).trans (HK10.out q hq hn ho));have HN11:Hid ((Value.slice a11 (tidy s'.wh).length c11).ownBlock≠some w3.heap.size):=hJ (fun e=>(hk11.own _ e).elim HN8.out (fun e=>by omega));have HO11:=hJ hown11;have HB11:Hid (Below wr.heap.size w7 w11):=hJ (HB10.out.trans hb11);clear hown11 hk11 hb11 hs11;have u4:=HP11.out.cell 4 _ rfl;have g4:=HP11.out.fz 4;have HP12:=hJ (HP11.out.set 4 (.slice a11 (tidy s'.wh).length c11));have p0:=HP12.out.cell 0 _ rfl;have p1:=HP12.out.cell 1 _ rfl;have p2:=HP12.out.cell 2 _ rfl;have p3:=HP12.out.cell 3 _ rfl;have p4':=HP12.out.cell 4 _ rfl;have HRw:Hid (Bx (w11.setCell ⟨w3.heap.size,4,none⟩ (.slice a11 (tidy s'.wh).length c11)) (w.heap.size+1) 29 _):=hJ ((HR7.out.below HB11.out (by omega)).other (by show w3.heap.size≠w.heap.size+1;omega));have v0:=HRw.out.cell 0 _ rfl;have v1:=HRw.out.cell 1 _ rfl;have v2:=HRw.out.cell 2 _ rfl;have v3:=HRw.out.cell 3 _ rfl;have v4:=HRw.out.cell 4 _ rfl;have u0:=HRw.out.fz 0;have u1:=HRw.out.fz 1;have u2:=HRw.out.fz 2;have u3:=HRw.out.fz 3;have u4':=HRw.out.fz 4;have hlr:=HRw.out.lt;have HX60:=hJ (((((HRw.out.set 0 (.slice ap3 s'.params.length cp3)).set 1 (.string s'.result.elem)).set 2 (.string s'.result.shape.row)).set 3 (.slice at3 s'.result.shape.dims.length ct3)).set 4 (.slice a11 (tidy s'.wh).length c11));have s0:=HX60.out.cell 0 _ rfl;have s1:=HX60.out.cell 1 _ rfl;have s2:=HX60.out.cell 2 _ rfl;have s3:=HX60.out.cell 3 _ rfl;have s4:=HX60.out.cell 4 _ rfl
        go_wp2_with fail
        refine bodyPost_ret (v:=.tuple #[.agg #[.slice ap3 s'.params.length cp3,.string s'.result.elem,.string s'.result.shape.row,.slice at3 s'.result.shape.dims.length ct3,.slice a11 (tidy s'.wh).length c11],.int .i64 0]) (by simp [results,results6,go_sem,s0,s1,s2,s3,s4,hlr]) rfl ?_;have hF:∀ q,q≠w3.heap.size→q≠w.heap.size+1→((((((w11.setCell ⟨w3.heap.size,4,none⟩ (.slice a11 (tidy s'.wh).length c11)).setCell ⟨w.heap.size+1,0,none⟩ (.slice ap3 s'.params.length cp3)).setCell ⟨w.heap.size+1,1,none⟩ (.string s'.result.elem)).setCell ⟨w.heap.size+1,2,none⟩ (.string s'.result.shape.row)).setCell ⟨w.heap.size+1,3,none⟩ (.slice at3 s'.result.shape.dims.length ct3)).setCell ⟨w.heap.size+1,4,none⟩ (.slice a11 (tidy s'.wh).length c11)).heap[q]? =w11.heap[q]? :=fun q h1 h2=>(kAA (fun e=>h2 e.symm)).trans ((kAA (fun e=>h2 e.symm)).trans ((kAA (fun e=>h2 e.symm)).trans ((kAA (fun e=>h2 e.symm)).trans ((kAA (fun e=>h2 e.symm)).trans (kAA (fun e=>h1 e.symm))))))
        have hFp:∀ q,(wr.heap.size≤q∧q<base)→q<w3.heap.size→((((((w11.setCell ⟨w3.heap.size,4,none⟩ (.slice a11 (tidy s'.wh).length c11)).setCell ⟨w.heap.size+1,0,none⟩ (.slice ap3 s'.params.length cp3)).setCell ⟨w.heap.size+1,1,none⟩ (.string s'.result.elem)).setCell ⟨w.heap.size+1,2,none⟩ (.string s'.result.shape.row)).setCell ⟨w.heap.size+1,3,none⟩ (.slice at3 s'.result.shape.dims.length ct3)).setCell ⟨w.heap.size+1,4,none⟩ (.slice a11 (tidy s'.wh).length c11)).heap[q]? =w3.heap[q]? :=fun q h1 h2=>(hF q (by omega) (by omega)).trans ((HK11.out q (by omega) (by omega) (fun e=>by have:=(HOB.out q e).1;omega)).trans (HB7.out.block q h2))
        refine ⟨⟨[.slice ap3 s'.params.length cp3,.string s'.result.elem,.string s'.result.shape.row,.slice at3 s'.result.shape.dims.length ct3,.slice a11 (tidy s'.wh).length c11],by rw [HG0.out],?_⟩,?_⟩
        · rw [HSp.out]
          obtain ⟨a12,c12,e12,hs12⟩:=HO11.out.sl;rw [Value.slice.injEq] at e12;obtain ⟨rfl,-,rfl⟩:=e12;refine ⟨_,_,_,rfl,⟨ap3,cp3,rfl,(HPs.out.frame hFp).mono (fun k hk _=>by omega)⟩,⟨at3,ct3,rfl,(HTs.out.frame hFp).mono (fun k hk _=>by omega)⟩,⟨a11,c11,rfl,?_⟩⟩;obtain ⟨a13,c13,e13,hs13,_⟩:=HO11.out.slAt;rw [Value.slice.injEq] at e13;obtain ⟨rfl,-,rfl⟩:=e13;have hA:∀ k,At a11 k→wr.heap.size≤k∧k≠w3.heap.size:=fun k hk=>⟨HO11.out.base_le k (kH0 hk),fun e=>HN11.out (by rw [← e];exact kH0 hk)⟩
          exact (hs13.frame (fun k hk _=>hF k (by rcases hk with hk | hk;exact hk.2;exact (hA k hk).2) (by rcases hk with hk | hk;exact (by have:=hk.1;omega);exact (by have:=(hA k hk).1;omega)))).mono (fun k hk _=>by rcases hk with hk | hk;exact (by have:=hk.1;omega);exact (by have:=(hA k hk).1;omega))
        · have hB':=HW7.out.trans (HB11.out.mono (B':=w.heap.size) (by omega))
          exact (((((hB'.setCell (by show w.heap.size≤w3.heap.size;omega) _).setCell (by show w.heap.size≤w.heap.size+1;omega) _).setCell (by show w.heap.size≤w.heap.size+1;omega) _).setCell (by show w.heap.size≤w.heap.size+1;omega) _).setCell (by show w.heap.size≤w.heap.size+1;omega) _).setCell (by show w.heap.size≤w.heap.size+1;omega) _
theorem sch_open {S:Blk} {w:World} {cs:List Value} {x:Sch} (h:RSch.rd S w cs x):∃ p c t d q e,cs=[.slice p x.params.length c,.string x.result.elem,.string x.result.shape.row,.slice t x.result.shape.dims.length d,.slice q x.wh.length e]:=by
 obtain ⟨_,_,_,rfl,⟨p1,c1,rfl,hp1⟩,⟨t1,d1,rfl,ht1⟩,⟨q1,e1,rfl,hq1⟩⟩:=h;exact ⟨p1,c1,t1,d1,q1,e1,rfl⟩
theorem parse_ex {s:Str} {x:Sch} (hs:s.size≤300) (hr:readS s=some x) (w:World) (E:EnvM w) :
 Calls Tryz.prog 13 #[.string s] w fun e w'=>(∃ p c t d q e2,e= .returned (.tuple #[.agg #[.slice p x.params.length c,.string x.result.elem,.string x.result.shape.row,.slice t x.result.shape.dims.length d,.slice q x.wh.length e2],.int .i64 0])∧RSch.rd All w' [.slice p x.params.length c,.string x.result.elem,.string x.result.shape.row,.slice t x.result.shape.dims.length d,.slice q x.wh.length e2] x)∧Below w.heap.size w w':=by
 refine (types_ParseScheme s (small_SOk hs) w E).mono ?_;rintro e w' ⟨⟨ds,rfl,h⟩,hb⟩;rw [hr] at h ⊢;obtain ⟨p,c,t,d,q,e2,rfl⟩:=sch_open h;exact ⟨⟨p,c,t,d,q,e2,rfl,RSch.mono h (fun _ _ _=>trivial)⟩,hb⟩
theorem canon_ex {S:Blk} {cs:List Value} (w:World) (h:RSch.rd S w cs as1) (E:Env w) :
 Calls Tryz.prog 6 #[.agg cs.toArray] w fun e w'=>(∃ p c t d q e2,e= .returned (.tuple #[.agg #[.slice p as2.params.length c,.string as2.result.elem,.string as2.result.shape.row,.slice t as2.result.shape.dims.length d,.slice q as2.wh.length e2],.int .i64 0])∧RSch.rd All w' [.slice p as2.params.length c,.string as2.result.elem,.string as2.result.shape.row,.slice t as2.result.shape.dims.length d,.slice q as2.wh.length e2] as2)∧Below w.heap.size w w':=by
 refine (kC5 h (kGS av1) (fun _=>by decide) E).mono ?_;rintro e w' ⟨⟨ds,rfl,h⟩,hb⟩;rw [ac1.1] at h;rw [ac1.2];obtain ⟨p,c,t,d,q,e2,rfl⟩:=sch_open h;exact ⟨⟨p,c,t,d,q,e2,rfl,RSch.mono h (fun _ _ _=>trivial)⟩,hb⟩
theorem law12_awake (w:World) (E:EnvM w):Calls Tryz.prog 4 #[] w fun e w'=>e= .returned (.bool true)∧Below w.heap.size w w':=by
 have HE:=hJ (fun (W:World) (hW:Below w.heap.size w W)=>E.below hW);have HP1:=hJ (fun (W:World) (hW:Below w.heap.size w W)=>parse_ex (s:=ax1) (by decide) ar1 W (E.below hW));have HP3:=hJ (fun (W:World) (hW:Below w.heap.size w W)=>parse_ex (s:=ax3) (by decide) ar3 W (E.below hW));have HP4:=hJ (fun (W:World) (hW:Below w.heap.size w W)=>parse_ex (s:=ax4) (by decide) ar4 W (E.below hW));clear E;go_enter func4,ntmps4
 go_wp2_with fail
 refine (HP1.out w (zB _ _)).mono ?_;rintro e w1 ⟨⟨p1,c1,t1,d1,q1,e1,rfl,h1⟩,hb1⟩;have HW1:=hJ hb1;clear hb1;have HR1:=hJ h1;clear h1;obtain ⟨HB1,hx1,hz1⟩:=box1 w1 29 [.slice p1 as1.params.length c1,.string as1.result.elem,.string as1.result.shape.row,.slice t1 as1.result.shape.dims.length d1,.slice q1 as1.wh.length e1];have HX1:Hid (Bx _ _ _ _):=hJ hx1;have HV1:=hJ (HW1.out.trans (HB1.out.mono HW1.out.size));have HS1:=hJ (RSch.below HR1.out HB1.out);clear hx1 HR1 HW1;have x0:=HX1.out.cell 0 _ rfl;have x1:=HX1.out.cell 1 _ rfl;have x2:=HX1.out.cell 2 _ rfl;have x3:=HX1.out.cell 3 _ rfl;have x4:=HX1.out.cell 4 _ rfl;have HC:=hJ (canon_ex _ HS1.out (HE.out _ HV1.out).env)
 go_wp2_with fail
 refine HC.out.mono ?_;rintro e w2 ⟨⟨p2,c2,t2,d2,q2,e2,rfl,h2⟩,hb2⟩;have HW2:=hJ (HV1.out.trans (hb2.mono HV1.out.size));have HX12:=hJ (HX1.out.below hb2 HX1.out.lt);have HS12:=hJ (RSch.below HS1.out hb2);have hl1:=hb2.size;rw [hz1] at hl1;clear hb2 x0 x1 x2 x3 x4 HX1 HS1 HC hz1 HB1 HV1;have HR2:=hJ h2;clear h2;obtain ⟨HB2,hx2,hz2⟩:=box1 w2 29 [.slice p2 as2.params.length c2,.string as2.result.elem,.string as2.result.shape.row,.slice t2 as2.result.shape.dims.length d2,.slice q2 as2.wh.length e2];have HX2:Hid (Bx _ _ _ _):=hJ hx2;have HV2:=hJ (HW2.out.trans (HB2.out.mono HW2.out.size));have HS2:=hJ (RSch.below HR2.out HB2.out);clear hx2 HR2 HW2;have x0:=HX2.out.cell 0 _ rfl;have x1:=HX2.out.cell 1 _ rfl;have x2:=HX2.out.cell 2 _ rfl;have x3:=HX2.out.cell 3 _ rfl;have x4:=HX2.out.cell 4 _ rfl;have HP2:=hJ (kFG HS2.out (kGS av2) (HE.out _ HV2.out).env);rw [ap2,av2,show ax2=((⟨#[40,91,114,49,46,46,93,105,110,116,44,32,91,110,49,93,65,49,41,32,45,62,32,91,110,49,93,65,49,32,119,104,101,114,101,32,110,49,45,49,44,32,110,49,43,110,50]⟩:Str)) from rfl] at HP2
 go_wp2_with fail
 refine HP2.out.mono ?_;rintro e w3 ⟨rfl,hb3⟩;have hl2:=hb3.size;rw [hz2] at hl2;have HX13:=hJ (HX12.out.below (HB2.out.trans (hb3.mono HB2.out.size)) (by omega));have HS13:=hJ (RSch.below (RSch.below HS12.out HB2.out) hb3);have HW3:=hJ (HV2.out.trans (hb3.mono HV2.out.size));clear hb3 x0 x1 x2 x3 x4 HX2 HS2 HP2 hz2 HB2 HV2 HX12 HS12
 go_wp2_with fail
 refine (HP3.out w3 HW3.out).mono ?_;rintro e w4 ⟨⟨p4,c4,t4,d4,q4,e4,rfl,h4⟩,hb4⟩;have HW4:=hJ (HW3.out.trans (hb4.mono HW3.out.size));have HX14:=hJ (HX13.out.below hb4 (by omega));have HS14:=hJ (RSch.below HS13.out hb4);have hl4:=hb4.size;clear hb4 HX13 HS13 HW3;have HR4:=hJ h4;clear h4;obtain ⟨HB4,hx4,hz4⟩:=box1 w4 29 [.slice p4 as3.params.length c4,.string as3.result.elem,.string as3.result.shape.row,.slice t4 as3.result.shape.dims.length d4,.slice q4 as3.wh.length e4];have HX4:Hid (Bx _ _ _ _):=hJ hx4;have HV4:=hJ (HW4.out.trans (HB4.out.mono HW4.out.size));have HS4:=hJ (RSch.below HR4.out HB4.out);clear hx4 HR4 HW4
 go_wp2_with fail
 refine (HP4.out _ HV4.out).mono ?_;rintro e w5 ⟨⟨p5,c5,t5,d5,q5,e5,rfl,h5⟩,hb5⟩;have HW5:=hJ (HV4.out.trans (hb5.mono HV4.out.size));have hl5:=hb5.size;rw [hz4] at hl5;have HX15:=hJ (HX14.out.below (HB4.out.trans (hb5.mono HB4.out.size)) (by omega));have HS15:=hJ (RSch.below (RSch.below HS14.out HB4.out) hb5);have HX45:=hJ (HX4.out.below hb5 HX4.out.lt);have HS45:=hJ (RSch.below HS4.out hb5);clear hb5 HX14 HS14 HX4 HS4 HV4 HB4 hz4;have HR5:=hJ h5;clear h5;obtain ⟨HB5,hx5,hz5⟩:=box1 w5 29 [.slice p5 as4.params.length c5,.string as4.result.elem,.string as4.result.shape.row,.slice t5 as4.result.shape.dims.length d5,.slice q5 as4.wh.length e5];have HX5:Hid (Bx _ _ _ _):=hJ hx5;have HV5:=hJ (HW5.out.trans (HB5.out.mono HW5.out.size));have HS5:=hJ (RSch.below HR5.out HB5.out);clear hx5 HR5 HW5;have HX16:=hJ (HX15.out.below HB5.out (by omega));have HS16:=hJ (RSch.below HS15.out HB5.out);have HX46:=hJ (HX45.out.below HB5.out (by omega));have HS46:=hJ (RSch.below HS45.out HB5.out);clear HX15 HS15 HX45 HS45;have y0:=HX46.out.cell 0 _ rfl;have y1:=HX46.out.cell 1 _ rfl;have y2:=HX46.out.cell 2 _ rfl;have y3:=HX46.out.cell 3 _ rfl;have y4:=HX46.out.cell 4 _ rfl;have z0:=HX5.out.cell 0 _ rfl;have z1:=HX5.out.cell 1 _ rfl;have z2:=HX5.out.cell 2 _ rfl;have z3:=HX5.out.cell 3 _ rfl;have z4:=HX5.out.cell 4 _ rfl;have HI:=hJ (inst_ex HS46.out HS5.out (HE.out _ HV5.out).env)
 go_wp2_with fail
 refine HI.out.mono ?_;rintro e w6 ⟨⟨ia,ic,rfl,hi⟩,hb6⟩;have HW6:=hJ (HV5.out.trans (hb6.mono HV5.out.size));have hl6:=hb6.size;rw [hz5] at hl6;have HX17:=hJ (HX16.out.below hb6 (by rw [hz5];omega));have HS17:=hJ (RSch.below HS16.out hb6);have HI6:=hJ hi;clear hi hb6 y0 y1 y2 y3 y4 z0 z1 z2 z3 z4 HI HX16 HS16 HX46 HS46 HX5 HS5 HV5 HB5;obtain ⟨ib,io,rfl,hib,_⟩:=HI6.out.form 0 (by decide);obtain ⟨_,_,_,_,_,_,i2,_⟩:=HI6.out.bnd 0 (by decide);obtain ⟨_,_,_,_,_,_,_,_,_,_,j6⟩:=HI6.out.bnd 1 (by decide);have k2:w6.cell? ⟨ib,io+2,none⟩=some (.int .i64 3):=i2;have k6:w6.cell? ⟨ib,io+7+6,none⟩=some (.string ⟨#[105,110,116]⟩):=j6;have k7:w6.cell? ⟨ib,io+13,none⟩=some (.string ⟨#[105,110,116]⟩):=j6;clear i2 j6;have x0:=HX17.out.cell 0 _ rfl;have x1:=HX17.out.cell 1 _ rfl;have x2:=HX17.out.cell 2 _ rfl;have x3:=HX17.out.cell 3 _ rfl;have x4:=HX17.out.cell 4 _ rfl;have HVs:=hJ (kBK HS17.out (kGS av1) (HE.out _ HW6.out).env);rw [av1] at HVs
 go_wp2_with fail
 refine HVs.out.mono ?_;rintro e w7 ⟨rfl,hb7⟩;have HW7:=hJ (HW6.out.trans (hb7.mono HW6.out.size));clear hb7
 go_wp2_with fail
 go_ret;exact ⟨rfl,HW7.out⟩
theorem srt_perm {l l2:List Coef} (h1:Srt l) (h2:Srt l2) (n1:Nz l) (n2:Nz l2) (hp:l.Perm l2):l=l2 :=
 srt_ext l l2 h1 h2 n1 n2 fun v=>by
  by_cases h:∃ t ∈ l,t.v=v
  · obtain ⟨t,ht,rfl⟩:=h
    rw [kDM h1 ht,kDM h2 (hp.mem_iff.1 ht)]
  · have q:∀ t,t ∈ l→seq t.v v=false:=fun t ht=>by
     rw [Bool.eq_false_iff];intro e;exact h ⟨t,ht,(kA6 _ _).1 e⟩
    rw [kCY l v q,kCY l2 v (fun t ht=>q t (hp.mem_iff.2 ht))]
theorem mem_addV {l:List Bnd} {k:Int} {v:Str} {y:Bnd} (h:y ∈ addV l k v):y ∈ l∨(y.kind=k∧y.v=v):=by
 unfold addV at h
 split at h
 · exact .inl h
 · rcases List.mem_append.1 h with q | q
   · exact .inl q
   · rw [List.mem_singleton.1 q];exact .inr ⟨rfl,rfl⟩
theorem has_find {l:List Bnd} {k:Int} {v:Str} (h:Has l k v):0≤kAW l k v:=by
 rcases Int.lt_or_le (kAW l k v) 0 with q | q
 · rw [kCU] at q;unfold Has at h;rw [h] at q;cases q
 · exact q
abbrev Ck:=(Int × Str) ⊕ Lin
def ckP:Ck→List (Int × Str)
 | .inl p=>[p]
 | .inr x=>(kAL x).map (fun n=>(1,n))
def psOf (c:List Ck):List (Int × Str):=c.flatMap ckP
def addP (l:List Bnd) (ps:List (Int × Str)):List Bnd:=ps.foldl (fun l p=>addV l p.1 p.2) l
def cksT (t:Typ):List Ck:=(if t.shape.row.toList.isEmpty then [] else [.inl (2,t.shape.row)])++(t.shape.dims.map .inr++(if kAQ t.elem then [.inl (3,t.elem)] else []))
def cksS (s:Sch):List Ck:=(allT s).flatMap cksT++s.wh.map .inr
theorem kDQ (l:List Bnd) (a b:List (Int × Str)):addP l (a++b)=addP (addP l a) b:=List.foldl_append
theorem kC2 (ns:List Str) (l:List Bnd):addP l (ns.map (fun n=>(1,n)))=addAll l ns:=by unfold addP addAll;rw [List.foldl_map]
theorem kF9 (a b:List Ck):psOf (a++b)=psOf a++psOf b:=List.flatMap_append
theorem kGW:∀ l:List Lin,psOf (l.map .inr)=(l.flatMap kAL).map (fun n=>(1,n))
 | []=>rfl
 | x :: l=>by
   have h:=kGW l;unfold psOf at h ⊢;rw [List.map_cons,List.flatMap_cons,List.flatMap_cons,List.map_append,h];rfl
theorem kE7 {l:List Bnd} {k:Int} {v:Str} (h:Has l k v):addV l k v=l:=by unfold addV;rw [if_pos (has_find h)]
theorem kJF {l:List Bnd} {k:Int} {v:Str} (h:¬ Has l k v):addV l k v=l++[bare k v]:=by
 have h2:l.any (isB k v)=false:=by unfold Has at h;simpa using h
 have:=kCU.2 h2;unfold addV;rw [if_neg (by omega)]
theorem addBs_addV (o m:List Bnd) (k:Int) (v:Str):addBs o (addV m k v)=addV (addBs o m) k v:=by
 by_cases h:Has m k v
 · rw [kE7 h,kE7 (has_bin m o h)]
 · rw [kJF h];unfold addBs;rw [List.foldl_append];rfl
theorem addBs_addP (o:List Bnd):∀ (ps:List (Int × Str)) (m:List Bnd),addBs o (addP m ps)=addP (addBs o m) ps
 | [],m=>rfl
 | p :: ps,m=>by
   show addBs o (addP (addV m p.1 p.2) ps)=addP (addV (addBs o m) p.1 p.2) ps
   rw [addBs_addP o ps,addBs_addV]
theorem varsTy_cks {t:Typ} (h:kAH t=true):kBN t=addP [] (psOf (cksT t)):=by
 have hs:kAK t.shape=true:=typ_shp h
 have h1:kC3 t.shape=addP [] (psOf ((if t.shape.row.toList.isEmpty then [] else [.inl (2,t.shape.row)])++t.shape.dims.map .inr)):=by
  rw [kF9,kDQ,kGW,kC2];unfold kC3 varsS rowV;rw [if_pos hs];cases t.shape.row.toList.isEmpty with
  | true=>rfl
  | false=>rfl
 unfold kBN cksT;rw [if_pos h,h1,← List.append_assoc,kF9 (_++_),kDQ];cases kAQ t.elem with
 | true=>rfl
 | false=>rfl
theorem run_cks:∀ (l:List Typ) (o:List Bnd),(∀ t ∈ l,kAH t=true)→l.foldl (fun o t=>addBs o (kBN t)) o=addP o (psOf (l.flatMap cksT))
 | [],o,_=>rfl
 | t :: l,o,h=>by
   rw [List.foldl_cons,run_cks l _ (fun u hu=>h u (zO _ hu)),varsTy_cks (h t (zM ..)),addBs_addP,List.flatMap_cons,kF9,kDQ];rfl
theorem kG9 {s:Sch} (h:kAI s=true):kAG s=addP [] (psOf (cksS s)):=by
 unfold kAG cksS;rw [if_pos h,run_cks _ _ (kBV h),kF9,kDQ,kGW,kC2]
theorem hasP_keep {k:Int} {v:Str}:∀ (ps:List (Int × Str)) (l:List Bnd),Has l k v→Has (addP l ps) k v
 | [],_,h=>h
 | p :: ps,l,h=>hasP_keep ps _ (h.add p.1 p.2)
theorem hasP_in {p:Int × Str}:∀ (ps:List (Int × Str)) (l:List Bnd),p ∈ ps→Has (addP l ps) p.1 p.2
 | [],_,h=>by cases h
 | q :: ps,l,h=>by
   rcases List.mem_cons.1 h with e | e
   · subst e;exact hasP_keep ps _ (has_add l _ _)
   · exact hasP_in ps _ e
theorem has_cks {s:Sch} (h:kAI s=true) {c:Ck} (hc:c ∈ cksS s) {p:Int × Str} (hp:p ∈ ckP c):Has (kAG s) p.1 p.2:=by
 rw [kG9 h];exact hasP_in _ _ (List.mem_flatMap.2 ⟨c,hc,hp⟩)
theorem cks_typ {s:Sch} {t:Typ} (ht:t ∈ allT s) {c:Ck} (hc:c ∈ cksT t):c ∈ cksS s:=List.mem_append.2 (.inl (List.mem_flatMap.2 ⟨t,ht,hc⟩))
def chK (k:Int):UInt8:=if k=1 then 110 else if k=2 then 114 else 65
def newN (l:List Bnd) (k:Int) (v:Str):Str:=nm (chK k) (cntK k (l.take (l.findIdx (isB k v)+1)))
theorem renAt_is (l:List Bnd) (k:Int) (v:Str) (i:Nat):isB k v (kE9 l i)=isB k v (l.getD i default):=by
 have h:=kGU (cntK (l.getD i default).kind (l.take (i+1))) (l.getD i default);unfold isB kE9;rw [h.1,h.2]
theorem self_range (l:List Bnd):l=(List.range l.length).map (fun i=>l.getD i default):=by
 refine List.ext_getElem (by simp) fun i h1 h2=>?_
 simp [h1]
theorem ren_find (l:List Bnd) (k:Int) (v:Str):(ren l).findIdx (isB k v)=l.findIdx (isB k v):=by
 have h:=congrArg (List.findIdx (isB k v)) (self_range l);rw [h];unfold ren;rw [List.findIdx_map,List.findIdx_map];exact congrArg (fun p=>List.findIdx p _) (funext fun i=>renAt_is l k v i)
theorem hit {l:List Bnd} {k:Int} {v:Str} (h:Has l k v):l.findIdx (isB k v)<l.length∧(l.getD (l.findIdx (isB k v)) default).kind=k∧(l.getD (l.findIdx (isB k v)) default).v=v:=by
 obtain ⟨h1,h2⟩:=kGH h;have h2:=kCR.1 h2;exact ⟨h1,h2.1,h2.2⟩
theorem ren_any (l:List Bnd) (k:Int) (v:Str):(ren l).any (isB k v)=l.any (isB k v):=by
 have h:=congrArg (fun q=>List.any q (isB k v)) (self_range l);have h:l.any (isB k v)=_:=h;rw [h];unfold ren;rw [List.any_map,List.any_map];exact congrArg (fun p=>List.any _ p) (funext fun i=>renAt_is l k v i)
theorem ren_findB (l:List Bnd) (k:Int) (v:Str):kAW (ren l) k v=kAW l k v:=by unfold kAW idx;rw [ren_any,ren_find]
theorem cnt_up {k:Int} {l:List Bnd} {i j:Nat} (hij:i<j) (hj:j<l.length) (hk:(l.getD j default).kind=k):cntK k (l.take (i+1))<cntK k (l.take (j+1)):=by
 have h1:cntK k (l.take (j+1))=cntK k (l.take j)+1:=by
  rw [kAU hj];unfold cntK;rw [List.countP_append];generalize l.getD j default=z at *;simp [hk]
 have h2:cntK k (l.take (i+1))≤cntK k (l.take j):=by
  have e:l.take (i+1)=(l.take j).take (i+1):=by rw [List.take_take,Nat.min_eq_left (by omega)]
  rw [e];exact (List.take_sublist _ _).countP_le
 omega
theorem newN_inj {l:List Bnd} {k:Int} {v w:Str} (h1:Has l k v) (h2:Has l k w) (h:newN l k v=newN l k w):v=w:=by
 obtain ⟨a2,a3,a4⟩:=hit h1;obtain ⟨b2,b3,b4⟩:=hit h2;have e:=nm_inj h;generalize l.findIdx (isB k v)=i at *;generalize l.findIdx (isB k w)=j at *;rcases Nat.lt_trichotomy i j with q | q | q
 · have:=cnt_up q b2 b3;omega
 · rw [← a4,← b4,q]
 · have:=cnt_up q a2 a3;omega
structure RenBy (b:List Bnd) (f:Int→Str→Str) (vs:List Bnd):Prop where
 d:∀ v,Has vs 1 v→sub1 b v=varL (f 1 v)
 r:∀ s:Shp,s.row.toList.isEmpty=false→Has vs 2 s.row→kBP b s=⟨f 2 s.row,[]⟩
 e:∀ e,Has vs 3 e→kD8 b e=f 3 e
 n:∀ e,kAQ e=false→kD8 b e=e
 inj:∀ k v w,Has vs k v→Has vs k w→f k v=f k w→v=w
 ne:∀ v,Has vs 2 v→(f 2 v).toList.isEmpty=false
 ev:∀ v,Has vs 3 v→kAQ (f 3 v)=true
theorem ren_getD {l:List Bnd} {k:Int} {v:Str} (hl:InvV l) (h:Has l k v):(ren l).getD (kAW (ren l) k v).toNat default=renB (cntK k (l.take (l.findIdx (isB k v)+1))) (bare k v)∧0≤kAW (ren l) k v:=by
 obtain ⟨h1,h2,h3⟩:=hit h;have hf:kAW l k v=(l.findIdx (isB k v):Int):=by unfold kAW idx;rw [if_pos (show l.any (isB k v)=true from h)]
 rw [ren_findB,hf];refine ⟨?_,by omega⟩;rw [Int.toNat_natCast,ren_at h1];have hg:=(hl.good _ (kAM h1)).1;unfold kE9;rw [hg,h2,h3];rfl
theorem kind3_elem {l:List Bnd} (hl:InvV l) {e:Str} (he:kAQ e=false):kAW l 3 e<0:=by
 refine kCU.2 ?_;rw [Bool.eq_false_iff];intro h;obtain ⟨y,hy,q⟩:=List.any_eq_true.1 h;have q:=kCR.1 q;rcases (hl.good y hy).2 with r | r | r
 · have:=q.1;omega
 · have:=q.1;omega
 · rw [q.2,he] at r;exact absurd r.2 (by decide)
theorem ren_by {l:List Bnd} (hl:InvV l) (hn:l.length≤3000):RenBy (ren l) (newN l) l where
 d v h:=by rw [sub1_ren h];unfold renF newN;rw [ren_find];rfl
 r s hs h:=by
  obtain ⟨h1,h2⟩:=ren_getD hl h;unfold kBP;rw [hs,if_neg (by decide),if_pos h2,h1];rfl
 e e h:=by
  obtain ⟨h1,h2⟩:=ren_getD hl h;unfold kD8;rw [if_pos h2,h1];rfl
 n e h:=by
  have:=kind3_elem hl h;unfold kD8;rw [ren_findB,if_neg (by omega)]
 inj k v w h1 h2 e:=newN_inj h1 h2 e
 ne v h:=by
  unfold newN;have:=nm_list (chK 2) (cntK 2 (l.take (l.findIdx (isB 2 v)+1)));cases hq:(nm (chK 2) (cntK 2 (l.take (l.findIdx (isB 2 v)+1)))).toList with
  | cons a b=>rfl
  | nil =>
    have e2:(nm (chK 2) (cntK 2 (l.take (l.findIdx (isB 2 v)+1)))).toList=chK 2 :: Lib.decDigits (cntK 2 (l.take (l.findIdx (isB 2 v)+1))):=by rw [← this,ByteArray.toList_eq]
    rw [hq] at e2;cases e2
 ev v h:=by
  unfold newN;refine nm_elem _ ?_;have h1:=cnt_le 3 (l.take (l.findIdx (isB 3 v)+1));rw [zN] at h1;omega
theorem RenBy.run {b:List Bnd} {f:Int→Str→Str} {vs:List Bnd} (h:RenBy b f vs) {x:Lin} (hx:kAB x=true) (hv:∀ n ∈ kAL x,Has vs 1 n):RunOk (f 1) x.const x.terms (kAD b x):=by
 have hm:∀ t ∈ x.terms,Has vs 1 t.v:=fun t ht=>hv _ (List.mem_map.2 ⟨t,ht,rfl⟩)
 have h0:=subRun_ren (b:=b) (f:=f 1) (c:=x.const) x.terms [] ⟨x.const,[]⟩ (fun t ht=>⟨h.d _ (hm t ht),(kAV hx).2.1 t ht⟩) ((kAV hx).1.imp_of_mem (fun {a c} ha hc hac e=>by
  have:=h.inj 1 _ _ (hm a ha) (hm c hc) e;rw [this,kCG] at hac;cases hac)) ⟨rfl,List.Pairwise.nil,fun t ht=>by simp at ht,List.Perm.refl _⟩
 rw [List.nil_append] at h0;exact h0
theorem run_eq {f:Str→Str} {c:Int} {l:List Coef} {x y:Lin} (hx:RunOk f c l x) (hy:RunOk f c l y):x=y:=by
 have h1:=srt_perm hx.srt hy.srt hx.nz hy.nz (hx.perm.trans hy.perm.symm);have h2:=hx.con.trans hy.con.symm;cases x;cases y;simp only at h1 h2;rw [h1,h2]
theorem renT_two (f g h:Str→Str) (l:List Coef) (e:∀ t ∈ l,g (f t.v)=h t.v):renT g (renT f l)=renT h l:=by
 unfold renT;rw [List.map_map];exact List.map_congr_left fun t ht=>by show (⟨g (f t.v),t.c⟩:Coef)=_;rw [e t ht]
theorem RunOk.two {f g h:Str→Str} {c:Int} {l:List Coef} {x y:Lin} (hx:RunOk f c l x) (hy:RunOk g x.const x.terms y) (e:∀ t ∈ l,g (f t.v)=h t.v):RunOk h c l y:=by
 refine ⟨hy.con.trans hx.con,hy.srt,hy.nz,?_⟩;rw [← renT_two f g h l e];exact hy.perm.trans (hx.perm.map _)
def mapB (f:Int→Str→Str) (x:Bnd):Bnd:=bare x.kind (f x.kind x.v)
theorem kC9 {l:List Bnd} {k:Int} {v:Str}:Has l k v ↔ ∃ y ∈ l,y.kind=k∧y.v=v:=by
 unfold Has;rw [List.any_eq_true];exact ⟨fun ⟨y,hy,q⟩=>⟨y,hy,kCR.1 q⟩,fun ⟨y,hy,q⟩=>⟨y,hy,kCR.2 q⟩⟩
theorem has_map {f:Int→Str→Str} {l:List Bnd} {k:Int} {v:Str} (h:Has l k v):Has (l.map (mapB f)) k (f k v):=by
 obtain ⟨y,hy,h1,h2⟩:=kC9.1 h;exact kC9.2 ⟨_,List.mem_map.2 ⟨y,hy,rfl⟩,h1,by show f y.kind y.v=_;rw [h1,h2]⟩
theorem findIdx_same {α :Type} {p q: α →Bool}:∀ l:List α,(∀ y ∈ l,p y=q y)→l.findIdx p=l.findIdx q
 | [],_=>rfl
 | y :: l,h=>by
   rw [List.findIdx_cons,List.findIdx_cons,h y (zM ..),findIdx_same l (fun z hz=>h z (zO _ hz))]
theorem new_map {f:Int→Str→Str} {l:List Bnd} (inj:∀ k v w,Has l k v→Has l k w→f k v=f k w→v=w) {k:Int} {v:Str} (h:Has l k v):newN (l.map (mapB f)) k (f k v)=newN l k v:=by
 have e1:(l.map (mapB f)).findIdx (isB k (f k v))=l.findIdx (isB k v):=by
  rw [List.findIdx_map];refine findIdx_same l fun y hy=>?_
  show isB k (f k v) (mapB f y)=isB k v y
  rw [Bool.eq_iff_iff,kCR,kCR]
  show y.kind=k∧f y.kind y.v=f k v ↔ _
  constructor
  · rintro ⟨rfl,q⟩
    exact ⟨rfl,inj _ _ _ (kC9.2 ⟨y,hy,rfl,rfl⟩) h q⟩
  · rintro ⟨rfl,rfl⟩;exact ⟨rfl,rfl⟩
 unfold newN;rw [e1,← List.map_take]
 congr 1
 unfold cntK;rw [List.countP_map];rfl
structure Twice (b:List Bnd) (f:Int→Str→Str) (vs vs2:List Bnd):Prop where
 one:RenBy b f vs
 old:RenBy (ren vs) (newN vs) vs
 new:RenBy (ren vs2) (newN vs2) vs2
 eq:vs2=vs.map (mapB f)
theorem Twice.name {b:List Bnd} {f:Int→Str→Str} {vs vs2:List Bnd} (h:Twice b f vs vs2) {k:Int} {v:Str} (hv:Has vs k v):Has vs2 k (f k v)∧newN vs2 k (f k v)=newN vs k v:=by
 rw [h.eq];exact ⟨has_map hv,new_map h.one.inj hv⟩
theorem RunOk.names {f:Str→Str} {c:Int} {x y:Lin} (h:RunOk f c x.terms y):∀ n ∈ kAL y,∃ m ∈ kAL x,n=f m:=fun n hn=>by
 obtain ⟨t,ht,rfl⟩:=List.mem_map.1 hn;obtain ⟨u,hu,q⟩:=List.mem_map.1 (h.perm.mem_iff.1 ht);exact ⟨u.v,List.mem_map.2 ⟨u,hu,rfl⟩,by rw [← q]⟩
theorem Twice.lin {b:List Bnd} {f:Int→Str→Str} {vs vs2:List Bnd} (h:Twice b f vs vs2) {x:Lin} (hx:kAB x=true) (hv:∀ n ∈ kAL x,Has vs 1 n) (hx2:kAB (kAD b x)=true):kAD (ren vs2) (kAD b x)=kAD (ren vs) x:=by
 have r1:=h.one.run hx hv
 have r2:=h.new.run hx2 (fun n hn=>by
  obtain ⟨m,hm,rfl⟩:=r1.names n hn;exact (h.name (hv m hm)).1)
 exact run_eq (r1.two r2 (fun t ht=>(h.name (hv _ (List.mem_map.2 ⟨t,ht,rfl⟩))).2)) (h.old.run hx hv)
structure InT (vs:List Bnd) (t:Typ):Prop where
 d:∀ x ∈ t.shape.dims,∀ n ∈ kAL x,Has vs 1 n
 r:t.shape.row.toList.isEmpty=false→Has vs 2 t.shape.row
 e:kAQ t.elem=true→Has vs 3 t.elem
theorem inT_of {s:Sch} (h:kAI s=true) {t:Typ} (ht:t ∈ allT s):InT (kAG s) t where
 d x hx n hn:=has_cks h (cks_typ ht (c:=.inr x) (List.mem_append.2 (.inr (List.mem_append.2 (.inl (List.mem_map.2 ⟨x,hx,rfl⟩)))))) (p:=(1,n)) (List.mem_map.2 ⟨n,hn,rfl⟩)
 r hr:=has_cks h (cks_typ ht (c:=.inl (2,t.shape.row)) (List.mem_append.2 (.inl (by rw [hr];simp)))) (p:=(2,t.shape.row)) (List.mem_singleton.2 rfl)
 e he:=has_cks h (cks_typ ht (c:=.inl (3,t.elem)) (List.mem_append.2 (.inr (List.mem_append.2 (.inr (by rw [he];simp)))))) (p:=(3,t.elem)) (List.mem_singleton.2 rfl)
theorem kEU {b:List Bnd} {s:Shp} (h:s.row.toList.isEmpty=true):kBP b s=⟨s.row,[]⟩:=by unfold kBP;rw [h,if_pos rfl]
theorem typ_mk {e:Str} {r:Str} {d:List Lin} {e2:Str} {r2:Str} {d2:List Lin} (h1:e=e2) (h2:r=r2) (h3:d=d2):(⟨e,⟨r,d⟩⟩:Typ)=⟨e2,⟨r2,d2⟩⟩:=by rw [h1,h2,h3]
theorem Twice.typ {b:List Bnd} {f:Int→Str→Str} {vs vs2:List Bnd} (h:Twice b f vs vs2) {t:Typ} (ht:∀ x ∈ t.shape.dims,kAB x=true) (hi:InT vs t) (h2:∀ x ∈ t.shape.dims,kAB (kAD b x)=true):kAP (ren vs2) (kAP b t)=kAP (ren vs) t:=by
 have hel:kD8 (ren vs2) (kD8 b t.elem)=kD8 (ren vs) t.elem:=by
  cases he:kAQ t.elem with
  | true =>
    have hv:=hi.e he;rw [h.one.e _ hv,h.old.e _ hv,h.new.e _ (h.name hv).1,(h.name hv).2]
  | false=>rw [h.one.n _ he,h.old.n _ he,h.new.n _ he]
 have hdm:∀ x ∈ t.shape.dims,kAD (ren vs2) (kAD b x)=kAD (ren vs) x:=fun x hx=>h.lin (ht x hx) (hi.d x hx) (h2 x hx)
 have key:∀ (r r2 r3:Str),kBP b t.shape=⟨r,[]⟩→kBP (ren vs) t.shape=⟨r3,[]⟩→kBP (ren vs2) ⟨r,t.shape.dims.map (kAD b)⟩=⟨r2,[]⟩→r2=r3→kAP (ren vs2) (kAP b t)=kAP (ren vs) t:=fun r r2 r3 q1 q2 q3 q4=>by
  unfold kAP kFZ;simp only [q1,q2,List.nil_append];rw [q3];refine typ_mk hel q4 ?_;rw [List.nil_append,List.map_map];exact List.map_congr_left hdm
 cases hr:t.shape.row.toList.isEmpty with
 | true=>exact key _ _ _ (kEU hr) (kEU hr) (kEU hr) rfl
 | false =>
   have hv:=hi.r hr;exact key _ _ _ (h.one.r _ hr hv) (h.old.r _ hr hv) (h.new.r _ (h.one.ne _ hv) (h.name hv).1) (h.name hv).2
def ckS (b:List Bnd) (f:Int→Str→Str):Ck→Ck
 | .inl p=>.inl (p.1,f p.1 p.2)
 | .inr x=>.inr (kAD b x)
theorem cksT_sub {b:List Bnd} {f:Int→Str→Str} {vs:List Bnd} (h:RenBy b f vs) {t:Typ} (hi:InT vs t):cksT (kAP b t)=(cksT t).map (ckS b f):=by
 have he:(if kAQ (kD8 b t.elem) then [Sum.inl (3,kD8 b t.elem)] else ([]:List Ck))=(if kAQ t.elem then [Sum.inl (3,t.elem)] else []).map (ckS b f):=by
  cases q:kAQ t.elem with
  | true =>
    have hv:=hi.e q;rw [h.e _ hv,h.ev _ hv];rfl
  | false=>rw [h.n _ q,q];rfl
 have key:∀ r:Str,kBP b t.shape=⟨r,[]⟩→(if r.toList.isEmpty then [] else [Sum.inl (2,r)]:List Ck)=(if t.shape.row.toList.isEmpty then [] else [Sum.inl (2,t.shape.row)]).map (ckS b f)→cksT (kAP b t)=(cksT t).map (ckS b f):=fun r q1 q2=>by
  unfold cksT kAP kFZ;simp only [q1,List.nil_append,List.map_append];rw [q2,he,List.map_map,List.map_map];rfl
 cases hr:t.shape.row.toList.isEmpty with
 | true=>exact key _ (kEU hr) (by rw [hr];rfl)
 | false =>
   have hv:=hi.r hr;exact key _ (h.r _ hr hv) (by rw [hr,h.ne _ hv];rfl)
theorem addP_map {f:Int→Str→Str} {vs:List Bnd} (inj:∀ k v w,Has vs k v→Has vs k w→f k v=f k w→v=w):∀ (ps:List (Int × Str)) (o:List Bnd),(∀ y ∈ o,Has vs y.kind y.v)→(∀ p ∈ ps,Has vs p.1 p.2)→addP (o.map (mapB f)) (ps.map (fun p=>(p.1,f p.1 p.2)))=(addP o ps).map (mapB f)
 | [],o,_,_=>rfl
 | p :: ps,o,ho,hp=>by
   have hpp:=hp p (zM ..);have hr:=fun q hq=>hp q (zO _ hq)
   show addP (addV (o.map (mapB f)) p.1 (f p.1 p.2)) (ps.map (fun p=>(p.1,f p.1 p.2)))=(addP (addV o p.1 p.2) ps).map (mapB f)
   by_cases h:Has o p.1 p.2
   · rw [kE7 h,kE7 (has_map h)];exact addP_map inj ps o ho hr
   · have h2:¬ Has (o.map (mapB f)) p.1 (f p.1 p.2):=fun q=>by
      obtain ⟨z,hz,q1,q2⟩:=kC9.1 q;obtain ⟨y,hy,rfl⟩:=List.mem_map.1 hz;have q1:y.kind=p.1:=q1;have q2:f y.kind y.v=f p.1 p.2:=q2;have hy2:=ho y hy;rw [q1] at q2 hy2;exact h (kC9.2 ⟨y,hy,q1,inj _ _ _ hy2 hpp q2⟩)
     rw [kJF h,kJF h2]
     have:=addP_map inj ps (o++[bare p.1 p.2]) (fun y hy=>by
      rcases List.mem_append.1 hy with q | q
      · exact ho y q
      · rw [List.mem_singleton.1 q];exact hpp) hr
     rw [List.map_append] at this;exact this
theorem addP_more:∀ (ps:List (Int × Str)) (o:List Bnd),∃ r,addP o ps=o++r
 | [],o=>⟨[],(List.append_nil _).symm⟩
 | p :: ps,o=>by
   obtain ⟨r,h⟩:=addP_more ps (addV o p.1 p.2);by_cases q:Has o p.1 p.2
   · rw [kE7 q] at h;exact ⟨r,by show addP (addV o p.1 p.2) ps=_;rw [kE7 q];exact h⟩
   · refine ⟨bare p.1 p.2 :: r,?_⟩
     show addP (addV o p.1 p.2) ps=_
     rw [h,kJF q,List.append_assoc];rfl
theorem has_one {o:List Bnd} {n m:Str}:Has (o++[bare 1 m]) 1 n ↔ Has o 1 n∨n=m:=by
 rw [kC9,kC9]
 constructor
 · rintro ⟨y,hy,h1,h2⟩
   rcases List.mem_append.1 hy with q | q
   · exact .inl ⟨y,q,h1,h2⟩
   · rw [List.mem_singleton.1 q] at h2;exact .inr h2.symm
 · rintro (⟨y,hy,h⟩ | rfl)
   · exact ⟨y,List.mem_append.2 (.inl hy),h⟩
   · exact ⟨bare 1 n,List.mem_append.2 (.inr (List.mem_singleton.2 rfl)),rfl,rfl⟩
def notIn (o:List Bnd) (n:Str):Bool:= !o.any (isB 1 n)
theorem kED:∀ (ns:List Str) (o:List Bnd),ns.Pairwise (· ≠ ·)→addAll o ns=o++(ns.filter (notIn o)).map (bare 1)
 | [],o,_=>(List.append_nil _).symm
 | n :: ns,o,h=>by
   obtain ⟨h1,h2⟩:=List.pairwise_cons.1 h
   show addAll (addV o 1 n) ns=_
   by_cases q:Has o 1 n
   · have q2:notIn o n=false:=by unfold notIn;rw [show o.any (isB 1 n)=true from q];rfl
     rw [kE7 q,kED ns o h2,List.filter_cons,q2,if_neg (by decide)]
   · have q3:o.any (isB 1 n)=false:=by unfold Has at q;simpa using q
     have q2:notIn o n=true:=by unfold notIn;rw [q3];rfl
     rw [kJF q,kED ns _ h2,List.filter_cons,q2,if_pos rfl,List.map_cons,List.append_assoc]
     have e:ns.filter (notIn (o++[bare 1 n]))=ns.filter (notIn o):=List.filter_congr fun m hm=>by
      unfold notIn;rw [Bool.eq_iff_iff,Bool.not_eq_true',Bool.not_eq_true',Bool.eq_false_iff,Bool.eq_false_iff];exact not_congr (has_one.trans ⟨fun z=>z.elim id (fun e=>absurd e (Ne.symm (h1 m hm))),.inl⟩)
     rw [e];rfl
theorem sorted_one {l m:List Str} (h1:l.Pairwise (fun a b=>slt a b=true)) (h2:m.Pairwise (fun a b=>slt a b=true)) (hp:l.Perm m):l=m:=by
 have key:∀ q:List Str,q.Pairwise (fun a b=>slt a b=true)→Srt (q.map fun n=>⟨n,1⟩)∧Nz (q.map fun n=>⟨n,1⟩):=fun q hq=>⟨List.pairwise_map.2 hq,fun t ht=>by obtain ⟨n,_,rfl⟩:=List.mem_map.1 ht;exact (by decide:(1:Int)≠0)⟩
 have e:=srt_perm (key l h1).1 (key m h2).1 (key l h1).2 (key m h2).2 (hp.map _);have e2:=congrArg (List.map Coef.v) e;rw [List.map_map,List.map_map] at e2
 simpa [Function.comp_def] using e2
theorem slt_ne2 {a b:Str} (h:slt a b=true):a≠b:=fun e=>by rw [e,kCG] at h;cases h
theorem nm_order (a b:Fin 10):a<b→slt (nm 110 a.val) (nm 110 b.val)=true:=by
 revert a b
 decide +kernel
theorem at_self {l:List Bnd} (hl:InvV l) {i:Nat} (hi:i<l.length):l.findIdx (isB (l.getD i default).kind (l.getD i default).v)=i:=by
 rw [List.findIdx_eq hi];refine ⟨?_,fun j hj=>?_⟩
 · have:l[i]=l.getD i default:=by rw [zD,zG hi];rfl
   rw [this];exact kCR.2 ⟨rfl,rfl⟩
 · have h:=List.any_eq_false.1 (hl.one i hi)
   rw [Bool.eq_false_iff];refine h _ (List.mem_iff_getElem?.2 ⟨j,?_⟩);rw [List.getElem?_take,if_pos hj,zG (Nat.lt_trans hj hi)]
theorem newN_at {l:List Bnd} (hl:InvV l) {i:Nat} (hi:i<l.length):newN l (l.getD i default).kind (l.getD i default).v=nm (chK (l.getD i default).kind) (cntK (l.getD i default).kind (l.take (i+1))):=by
 unfold newN;rw [at_self hl hi]
theorem new_order {l:List Bnd} (hl:InvV l) (h9:cntK 1 l≤9):l.Pairwise (fun a b=>a.kind=1→b.kind=1→slt (newN l 1 a.v) (newN l 1 b.v)=true):=by
 rw [List.pairwise_iff_getElem];intro i j hi hj hij h1 h2;have g:∀ {q:Nat} (hq:q<l.length),l[q]=l.getD q default:=fun {q} hq=>by rw [zD,zG hq];rfl
 rw [g hi] at h1 ⊢;rw [g hj] at h2 ⊢;have e1:=newN_at hl hi;have e2:=newN_at hl hj;rw [h1] at e1;rw [h2] at e2;rw [e1,e2];have c1:=cnt_up hij hj h2;have c2:cntK 1 (l.take (j+1))≤cntK 1 l:=(List.take_sublist _ _).countP_le;exact nm_order ⟨cntK 1 (l.take (i+1)),by omega⟩ ⟨cntK 1 (l.take (j+1)),by omega⟩ c1
theorem lin_step {vs o r:List Bnd} {x:Lin} (hvs:InvV vs) (h9:cntK 1 vs≤9) (hl:vs.length≤3000) (hx:kAB x=true) (hv:∀ n ∈ kAL x,Has vs 1 n) (ho:∀ y ∈ o,Has vs y.kind y.v) (he:addAll o (kAL x)++r=vs) :
 addAll (o.map (mapB (newN vs))) (kAL (kAD (ren vs) x))=(addAll o (kAL x)).map (mapB (newN vs)):=by
 have hR:=ren_by hvs hl;have hrun:=hR.run hx hv;have s1:(kAL x).Pairwise (fun a b=>slt a b=true):=List.pairwise_map.2 (kAV hx).1;have s2:(kAL (kAD (ren vs) x)).Pairwise (fun a b=>slt a b=true):=List.pairwise_map.2 hrun.srt
 have hp:(kAL (kAD (ren vs) x)).Perm ((kAL x).map (newN vs 1)):=by
  have:=hrun.perm.map Coef.v;unfold renT at this;rw [List.map_map] at this;unfold kAL;rw [List.map_map];exact this
 rw [kED _ _ (s1.imp slt_ne2)] at he ⊢;rw [kED _ _ (s2.imp slt_ne2),List.map_append,List.map_map]
 congr 1
 have e3:((kAL x).filter (notIn o)).map (mapB (newN vs) ∘ bare 1)=(((kAL x).filter (notIn o)).map (newN vs 1)).map (bare 1):=by rw [List.map_map];rfl
 rw [e3]
 congr 1
 refine sorted_one (s2.sublist List.filter_sublist) ?_ ?_
 · rw [List.pairwise_map]
   have h1:=new_order hvs h9;rw [← he,List.append_assoc] at h1;have h2:=(List.pairwise_append.1 (List.pairwise_append.1 h1).2.1).1;rw [List.pairwise_map] at h2;rw [← he,List.append_assoc];exact h2.imp fun q=>q rfl rfl
 · refine (hp.filter _).trans ?_
   rw [List.filter_map];refine List.Perm.of_eq (congrArg _ (List.filter_congr fun n hn=>?_))
   show notIn (o.map (mapB (newN vs))) (newN vs 1 n)=notIn o n
   unfold notIn;rw [Bool.eq_iff_iff,Bool.not_eq_true',Bool.not_eq_true',Bool.eq_false_iff,Bool.eq_false_iff];refine not_congr ?_
   constructor
   · intro q
     obtain ⟨z,hz,q1,q2⟩:=kC9.1 q;obtain ⟨y,hy,rfl⟩:=List.mem_map.1 hz;have q1:y.kind=1:=q1;have q2:newN vs y.kind y.v=newN vs 1 n:=q2;have hy2:=ho y hy;rw [q1] at q2 hy2;exact kC9.2 ⟨y,hy,q1,newN_inj hy2 (hv n hn) q2⟩
   · intro q;exact has_map q
theorem addP_in:∀ (ps:List (Int × Str)) (o:List Bnd),∀ y ∈ addP o ps,y ∈ o∨∃ p ∈ ps,y.kind=p.1∧y.v=p.2
 | [],o,y,h=>.inl h
 | p :: ps,o,y,h=>by
   rcases addP_in ps _ y h with q | ⟨r,hr,e⟩
   · rcases mem_addV q with z | z
     · exact .inl z
     · exact .inr ⟨p,zM ..,z⟩
   · exact .inr ⟨r,zO _ hr,e⟩
theorem run_step {vs:List Bnd} (hvs:InvV vs) (h9:cntK 1 vs≤9) (hl:vs.length≤3000):∀ (C:List Ck) (o r:List Bnd),(∀ x,.inr x ∈ C→kAB x=true)→(∀ c ∈ C,∀ p ∈ ckP c,Has vs p.1 p.2)→(∀ y ∈ o,Has vs y.kind y.v)→addP o (psOf C)++r=vs →
 addP (o.map (mapB (newN vs))) (psOf (C.map (ckS (ren vs) (newN vs))))=(addP o (psOf C)).map (mapB (newN vs))
 | [],o,r,_,_,_,_=>rfl
 | c :: C,o,r,hx,hc,ho,he=>by
   have hcc:=hc c (zM ..);have e1:psOf (c :: C)=ckP c++psOf C:=List.flatMap_cons;have e2:psOf ((c :: C).map (ckS (ren vs) (newN vs)))=ckP (ckS (ren vs) (newN vs) c)++psOf (C.map (ckS (ren vs) (newN vs))):=List.flatMap_cons;rw [e1,kDQ] at he;rw [e1,e2,kDQ,kDQ]
   have ho2:∀ y ∈ addP o (ckP c),Has vs y.kind y.v:=fun y hy=>by
    rcases addP_in _ _ y hy with q | ⟨p,hp,q1,q2⟩
    · exact ho y q
    · rw [q1,q2];exact hcc p hp
   have step:addP (o.map (mapB (newN vs))) (ckP (ckS (ren vs) (newN vs) c))=(addP o (ckP c)).map (mapB (newN vs)):=by
    cases c with
    | inl p=>exact addP_map (fun k v w=>newN_inj) [p] o ho (fun q hq=>hcc q hq)
    | inr x =>
      show addP (o.map (mapB (newN vs))) ((kAL (kAD (ren vs) x)).map (fun n=>(1,n)))=(addP o ((kAL x).map (fun n=>(1,n)))).map (mapB (newN vs))
      rw [kC2,kC2];obtain ⟨r2,hr2⟩:=addP_more (psOf C) (addP o (ckP (.inr x)));rw [hr2,List.append_assoc] at he;refine lin_step hvs h9 hl (hx x (zM ..)) (fun n hn=>hcc (1,n) (List.mem_map.2 ⟨n,hn,rfl⟩)) ho (r:=r2++r) ?_;rw [← kC2];exact he
   rw [step];exact run_step hvs h9 hl C _ r (fun x hx2=>hx x (zO _ hx2)) (fun c2 hc2=>hc c2 (zO _ hc2)) ho2 he
def frontS (s:Sch):Sch:=⟨s.params,s.result,[]⟩
def nineB (s:Sch):Bool:=decide (cntK 1 (kAG s)≤9∧cntK 2 (kAG s)≤9∧cntK 3 (kAG s)≤9) && decide ((kAG s).length=(kAG (frontS s)).length)
theorem front_valid {s:Sch} (h:kAI s=true):kAI (frontS s)=true:=by
 obtain ⟨h1,h2,h3,h4,h5⟩:=kAO h;exact kH1 h1 (by show 0≤60;omega) h3 h4 (fun x hx=>absurd hx (List.not_mem_nil))
theorem addAll_all:∀ (ns:List Str) (o:List Bnd),(∀ n ∈ ns,Has o 1 n)→addAll o ns=o
 | [],o,_=>rfl
 | n :: ns,o,h=>by
   show addAll (addV o 1 n) ns=o
   rw [kE7 (h n (zM ..))];exact addAll_all ns o (fun m hm=>h m (zO _ hm))
theorem tidy_two (l:List Lin):tidy (tidy l)=tidy l :=
 ss_ext totLin _ _ (tidyG_ss totLin kGO _) (tidyG_ss totLin kGO _) fun x=>by
  show x ∈ tidyG kAX kGO (tidyG kAX kGO l) ↔ x ∈ tidyG kAX kGO l
  rw [kIM totLin,kIM totLin];exact ⟨fun h=>h.1,fun h=>⟨h,h.2⟩⟩
theorem can_parts {s:Sch} (hv:kAI s=true):(∀ t ∈ allT s,∀ x ∈ t.shape.dims,kAB (kAD (ren (kAG s)) x)=true)∧∀ x ∈ s.wh,kAB (kAD (ren (kAG s)) x)=true :=
 ⟨fun t ht x hx=>kHC ((kBM (kBV hv t ht)).2.2.2 x hx) (fun n hn=>has_sch hv ht hx hn),fun x hx=>kHC ((kAO hv).2.2.2.2 x hx) (fun n hn=>has_wh hv hx hn)⟩
theorem allT_can (s:Sch):allT (canR s)=(allT s).map (kAP (ren (kAG s))):=by
 unfold allT canR;rw [List.map_append];rfl
theorem kFB {vs:List Bnd} {b:List Bnd} {f:Int→Str→Str} (h:RenBy b f vs):∀ l:List Typ,(∀ t ∈ l,InT vs t)→(l.map (kAP b)).flatMap cksT=(l.flatMap cksT).map (ckS b f)
 | [],_=>rfl
 | t :: l,hi=>by
   rw [List.map_cons,List.flatMap_cons,List.flatMap_cons,List.map_append,cksT_sub h (hi t (zM ..)),kFB h l (fun u hu=>hi u (zO _ hu))]
theorem vars_can {s:Sch} (hv:kAI s=true) (h9:nineB s=true):kAG (canR s)=(kAG s).map (mapB (newN (kAG s))):=by
 have hc:=can_valid (kDE hv);have hvs:=kA5 hv;have hl:=kB3 (s:=s);unfold nineB at h9;rw [zA,decide_eq_true_eq,decide_eq_true_eq] at h9
 have hfr:kAG (frontS s)=addP [] (psOf ((allT s).flatMap cksT)):=by
  rw [kG9 (front_valid hv)];unfold cksS;rw [kF9,kDQ];rfl
 have hal:addAll (addP [] (psOf ((allT s).flatMap cksT))) (s.wh.flatMap kAL)=kAG s:=by
  rw [kG9 hv];unfold cksS;rw [kF9,kDQ,kGW,kC2]
 obtain ⟨r,hr⟩:=addP_more ((s.wh.flatMap kAL).map (fun n=>(1,n))) (addP [] (psOf ((allT s).flatMap cksT)));rw [kC2,hal] at hr
 have hr0:r=[]:=by
  have:=congrArg List.length hr;rw [zP,← hfr,← h9.2] at this;exact List.length_eq_zero_iff.1 (by omega)
 rw [hr0,List.append_nil] at hr;have hb:=ren_by hvs hl;have hin:∀ t ∈ allT s,InT (kAG s) t:=fun t ht=>inT_of hv ht
 have h1:=run_step hvs h9.1.1 hl ((allT s).flatMap cksT) [] [] (fun x hx=>by
  obtain ⟨t,ht,q⟩:=List.mem_flatMap.1 hx;unfold cksT at q;rcases List.mem_append.1 q with q | q
  · split at q
    · cases q
    · cases List.mem_singleton.1 q
  · rcases List.mem_append.1 q with q | q
    · obtain ⟨y,hy,e⟩:=List.mem_map.1 q
      cases e;exact (kBM (kBV hv t ht)).2.2.2 x hy
    · split at q
      · cases List.mem_singleton.1 q
      · cases q) (fun c hc2 p hp=>has_cks hv (List.mem_append.2 (.inl hc2)) hp) (fun y hy=>by cases hy) (by rw [List.append_nil];exact hr.symm)
 rw [kG9 hc];unfold cksS;rw [kF9,kDQ,kGW,kC2,allT_can,kFB hb _ hin];rw [← hr] at h1;have h1:addP [] (psOf (((allT s).flatMap cksT).map (ckS (ren (kAG s)) (newN (kAG s)))))=(kAG s).map (mapB (newN (kAG s))):=h1;rw [h1];refine addAll_all _ _ fun n hn=>?_
 obtain ⟨y,hy,q⟩:=List.mem_flatMap.1 hn;obtain ⟨x,hx,rfl⟩:=List.mem_map.1 (tidy_mem _ y hy);obtain ⟨m,hm,rfl⟩:=(hb.run ((kAO hv).2.2.2.2 x hx) (fun n hn=>has_wh hv hx hn)).names n q;exact has_map (has_wh hv hx hm)
theorem sch_mk {p q:List Typ} {r t:Typ} {u w:List Lin} (h1:p=q) (h2:r=t) (h3:u=w):(⟨p,r,u⟩:Sch)=⟨q,t,w⟩:=by rw [h1,h2,h3]
theorem inv_map {s:Sch} (hv:kAI s=true) {s2:Sch} (hc:kAI s2=true) {b:List Bnd} {f:Int→Str→Str} (hb:RenBy b f (kAG s)) (e:kAG s2=(kAG s).map (mapB f)):Twice b f (kAG s) (kAG s2) :=
 ⟨hb,ren_by (kA5 hv) kB3,ren_by (kA5 hc) kB3,e⟩
theorem can_again {s:Sch} (hv:kAI s=true) (h9:nineB s=true):can (can s)=can s∧kDF (can s)=0:=by
 have hc:=can_valid (kDE hv);have e1:can s=canR s:=by unfold can;rw [if_pos (kDE hv)]
 have hT:=inv_map hv hc (ren_by (kA5 hv) kB3) (vars_can hv h9);have hp:=can_parts hv;rw [e1];refine ⟨?_,?_⟩
 · unfold can
   rw [if_pos (kDE hc)];have one:∀ t ∈ allT s,kAP (ren (kAG (canR s))) (kAP (ren (kAG s)) t)=kAP (ren (kAG s)) t:=fun t ht=>hT.typ (kBM (kBV hv t ht)).2.2.2 (inT_of hv ht) (hp.1 t ht)
   show (⟨_,_,_⟩:Sch)=⟨_,_,_⟩
   refine sch_mk ?_ (one _ (List.mem_append.2 (.inr (List.mem_singleton.2 rfl)))) ?_
   · show (s.params.map (kAP (ren (kAG s)))).map _=_
     rw [List.map_map];exact List.map_congr_left fun t ht=>one t (List.mem_append.2 (.inl ht))
   · show tidy ((tidy (s.wh.map (kAD (ren (kAG s))))).map (kAD (ren (kAG (canR s)))))=tidy (s.wh.map (kAD (ren (kAG s))))
     have e2:(tidy (s.wh.map (kAD (ren (kAG s))))).map (kAD (ren (kAG (canR s))))=tidy (s.wh.map (kAD (ren (kAG s)))):=by
      conv=>rhs;rw [← List.map_id (tidy (s.wh.map (kAD (ren (kAG s)))))]
      refine List.map_congr_left fun y hy=>?_
      obtain ⟨x,hx,rfl⟩:=List.mem_map.1 (tidy_mem _ y hy);exact hT.lin ((kAO hv).2.2.2.2 x hx) (fun n hn=>has_wh hv hx hn) (hp.2 x hx)
     rw [e2,tidy_two]
 · unfold kDF kBT
   rw [if_pos hc];have:=kDE hc;unfold canOk at this;rw [if_pos this]
def xN (v:Str):Str:=⟨#[120]⟩++v
def kC8 (x:Bnd):Bool:=x.kind != 3 && (decide (x.v.size≤25) && decide (bt x.v 0≠95))
def kI3 (x:Bnd):Bnd:=if x.kind=1 then ⟨1,x.v,varL (xN x.v),⟨⟨#[]⟩,[]⟩,⟨#[]⟩⟩ else ⟨2,x.v,⟨0,[]⟩,⟨xN x.v,[]⟩,⟨#[]⟩⟩
def lead (l:List Bnd):List Bnd:=(l.filter kC8).map kI3
def leadF (k:Int) (v:Str):Str:=if k=3 then v else xN v
def kGC (l:List Bnd):Bool:=l.all (fun x=>x.kind==3 || kC8 x)
theorem kGP (v:Str):(xN v).data.toList=120 :: v.data.toList:=by
 unfold xN
 show ((⟨#[120]⟩:ByteArray)++v).data.toList=_
 rw [ByteArray.data_append];simp
theorem xN_size (v:Str):(xN v).size=v.size+1:=by
 have h:=congrArg List.length (kGP v);rw [List.length_cons] at h;exact h
theorem xN_zero (v:Str):bt (xN v) 0=120:=by unfold bt nb;rw [kGP];rfl
theorem xN_next (v:Str) (i:Nat):bt (xN v) (i+1)=bt v i:=by unfold bt nb;rw [kGP];rfl
theorem xN_inj {v u:Str} (h:xN v=xN u):v=u:=by
 have e:(xN v).data.toList=(xN u).data.toList:=by rw [h]
 rw [kGP,kGP,List.cons.injEq] at e;exact (kA6 v u).1 (by unfold seq;rw [ByteArray.toList_eq,ByteArray.toList_eq,e.2];simp)
theorem xN_slt {v u:Str} (h:slt v u=true):slt (xN v) (xN u)=true:=by
 unfold slt at *;rw [ByteArray.toList_eq,ByteArray.toList_eq] at *;rw [kGP,kGP];simp [Op.bytesLess,h]
theorem xN_name {v:Str} (h:kAZ v=true) (hs:v.size≤25) (h0:bt v 0≠95):kAZ (xN v)=true:=by
 unfold kAZ at h ⊢;rw [if_neg h0,zA,decide_eq_true_eq,List.all_eq_true] at h;rw [xN_zero,if_neg (by decide),zA,decide_eq_true_eq,List.all_eq_true,xN_size];refine ⟨by omega,fun i hi=>?_⟩;have hi:=List.mem_range.1 hi;cases i with
 | zero=>rw [xN_zero];rfl
 | succ i =>
   rw [xN_next];have:=h.2 i (List.mem_range.2 (by omega));rw [Bool.or_eq_true,zA] at this ⊢;exact this.imp id (fun q=>⟨by simp,q.2⟩)
theorem kGB {l:List Bnd} (hl:InvV l) {y:Bnd} (hy:y ∈ lead l):∃ x ∈ l,kC8 x=true∧((x.kind=1∧y=⟨1,x.v,varL (xN x.v),⟨⟨#[]⟩,[]⟩,⟨#[]⟩⟩)∨(x.kind=2∧y=⟨2,x.v,⟨0,[]⟩,⟨xN x.v,[]⟩,⟨#[]⟩⟩)):=by
 obtain ⟨x,hx,rfl⟩:=List.mem_map.1 hy;obtain ⟨h1,h2⟩:=List.mem_filter.1 hx;refine ⟨x,h1,h2,?_⟩;unfold kC8 at h2;rw [zA,bne_iff_ne] at h2;rcases (hl.good x h1).2 with q | q | q
 · exact .inl ⟨q.1,by unfold kI3;rw [if_pos q.1]⟩
 · exact .inr ⟨q.1,by unfold kI3;rw [if_neg (by omega)]⟩
 · exact absurd q.1 h2.1
theorem lead_has {l:List Bnd} (ha:kGC l=true) {k:Int} {v:Str} (hk:k≠3) (h:Has l k v) (hg:InvV l):Has (lead l) k v:=by
 obtain ⟨y,hy,h1,h2⟩:=kC9.1 h;have:=(List.all_eq_true.1 ha) y hy;rw [Bool.or_eq_true,beq_iff_eq] at this;have hok:=this.resolve_left (by omega);refine kC9.2 ⟨kI3 y,List.mem_map.2 ⟨y,List.mem_filter.2 ⟨hy,hok⟩,rfl⟩,?_⟩;rcases (hg.good y hy).2 with q | q | q
 · unfold kI3;rw [if_pos q.1];exact ⟨by rw [← h1,q.1],h2⟩
 · unfold kI3;rw [if_neg (by omega)];exact ⟨by rw [← h1,q.1],h2⟩
 · omega
theorem find_mem {l:List Bnd} {k:Int} {v:Str} (h:Has l k v):0≤kAW l k v∧l.getD (kAW l k v).toNat default ∈ l∧(l.getD (kAW l k v).toNat default).kind=k∧(l.getD (kAW l k v).toNat default).v=v:=by
 obtain ⟨h1,h2,h3⟩:=hit h;have hf:kAW l k v=(l.findIdx (isB k v):Int):=by unfold kAW idx;rw [if_pos (show l.any (isB k v)=true from h)]
 rw [hf,Int.toNat_natCast];exact ⟨by omega,kAM h1,h2,h3⟩
theorem lead_by {l:List Bnd} (hl:InvV l) (ha:kGC l=true):RenBy (lead l) leadF l where
 d v h:=by
  have h1:=lead_has ha (by decide) h hl;have h1':(lead l).any (isB 1 v)=true:=h1;obtain ⟨g1,g2,g3⟩:=hit h1;unfold sub1 bndL;rw [if_pos h1',if_pos h1'];obtain ⟨x,hx,_,⟨q1,q2⟩ | ⟨q1,q2⟩⟩:=kGB hl (kAM g1)
  · rw [q2] at g3 ⊢
    have g3:x.v=v:=g3;rw [← g3];rfl
  · rw [q2] at g2;exact absurd (show (2:Int)=1 from g2) (by decide)
 r s hs h:=by
  obtain ⟨g1,g4,g2,g3⟩:=find_mem (lead_has ha (by decide) h hl);unfold kBP;rw [hs,if_neg (by decide),if_pos g1];obtain ⟨x,hx,_,⟨q1,q2⟩ | ⟨q1,q2⟩⟩:=kGB hl g4
  · rw [q2] at g2;exact absurd (show (1:Int)=2 from g2) (by decide)
  · rw [q2] at g3 ⊢
    have g3:x.v=s.row:=g3;rw [← g3];rfl
 e e h:=by
  unfold kD8;rw [if_neg ?_]
  · rfl
  · intro q
    obtain ⟨h1,h2⟩:=kHQ q;obtain ⟨x,hx,_,⟨q1,q2⟩ | ⟨q1,q2⟩⟩:=kGB hl h1
    · rw [q2] at h2;exact absurd (show (1:Int)=3 from h2) (by decide)
    · rw [q2] at h2;exact absurd (show (2:Int)=3 from h2) (by decide)
 n e h:=by
  unfold kD8;rw [if_neg ?_];intro q;obtain ⟨h1,h2⟩:=kHQ q;obtain ⟨x,hx,_,⟨q1,q2⟩ | ⟨q1,q2⟩⟩:=kGB hl h1
  · rw [q2] at h2;exact absurd (show (1:Int)=3 from h2) (by decide)
  · rw [q2] at h2;exact absurd (show (2:Int)=3 from h2) (by decide)
 inj k v w h1 h2 e:=by
  unfold leadF at e
  split at e
  · exact e
  · exact xN_inj e
 ne v h:=by
  show (xN v).toList.isEmpty=false
  rw [ByteArray.toList_eq,kGP];rfl
 ev v h:=by
  obtain ⟨y,hy,h1,h2⟩:=kC9.1 h;rcases (hl.good y hy).2 with q | q | q
  · omega
  · omega
  · rw [h2] at q;exact q.2
theorem lead_valid {l:List Bnd} (hl:InvV l):kA8 (lead l)=true:=by
 have hsub:∀ q:List Bnd,q.Sublist l→∀ i,i<q.length→(q.take i).any (isB (q.getD i default).kind (q.getD i default).v)=false:=by
  intro q hq i hi
  have hp:l.Pairwise (fun a b=>¬ (a.kind=b.kind∧a.v=b.v)):=by
   rw [List.pairwise_iff_getElem];intro a b ha hb hab e;have g:∀ {z:Nat} (hz:z<l.length),l[z]=l.getD z default:=fun {z} hz=>by rw [zD,zG hz];rfl
   have h:=List.any_eq_false.1 (hl.one b hb) l[a] (List.mem_iff_getElem?.2 ⟨a,by rw [List.getElem?_take,if_pos hab,zG ha]⟩);refine h (kCR.2 ?_);rw [← g hb];exact e
  have hp2:=hp.sublist hq;rw [List.any_eq_false];intro x hx e;obtain ⟨j,hj,e2⟩:=List.getElem_of_mem hx;rw [zN] at hj;rw [List.pairwise_iff_getElem] at hp2;have:=hp2 j i (by omega) hi (by omega);rw [List.getElem_take] at e2;have e:=kCR.1 e;have g:q[i]=q.getD i default:=by rw [zD,zG hi];rfl
  rw [e2,g] at this;exact this e
 have e0:(⟨#[]⟩:Str).toList.isEmpty=true:=by rw [ByteArray.toList_eq];rfl
 have e1:kDA ⟨⟨#[]⟩,[]⟩=true:=by unfold kDA;rw [e0];rfl
 unfold kA8;rw [List.all_eq_true];intro i hi;have hi:=List.mem_range.1 hi;have hi2:i<(l.filter kC8).length:=by unfold lead at hi;rwa [List.length_map] at hi
 unfold bndOk;rw [zA,decide_eq_true_eq];refine ⟨?_,kCU.2 ?_⟩
 · obtain ⟨x,hx,hok,hy⟩:=kGB hl (kAM hi)
   unfold kC8 at hok;rw [zA,zA,decide_eq_true_eq,decide_eq_true_eq] at hok;rcases hy with ⟨q1,q2⟩ | ⟨q1,q2⟩
   · rw [q2]
     rcases (hl.good x hx).2 with q | q | q
     · show (kAZ x.v && (kAB (varL (xN x.v)) && (kDA ⟨⟨#[]⟩,[]⟩ && (⟨#[]⟩:Str).toList.isEmpty)))=true
       rw [q.2,varL_valid (xN_name q.2 hok.2.1 hok.2.2),e0,e1];rfl
     · omega
     · omega
   · rw [q2]
     rcases (hl.good x hx).2 with q | q | q
     · omega
     · show (kAZ x.v && (kAK ⟨xN x.v,[]⟩ && (zeroL ⟨0,[]⟩ && (⟨#[]⟩:Str).toList.isEmpty)))=true
       have:kAK ⟨xN x.v,[]⟩=true:=by
        unfold kAK rowB;simp [xN_name q.2 hok.2.1 hok.2.2]
       rw [q.2,this,e0];rfl
     · omega
 · have hk:∀ z ∈ l.filter kC8,(kI3 z).kind=z.kind∧(kI3 z).v=z.v:=fun z hz=>by
    obtain ⟨h1,h2⟩:=List.mem_filter.1 hz;unfold kC8 at h2;rw [zA,bne_iff_ne] at h2;unfold kI3;rcases (hl.good z h1).2 with q | q | q
    · rw [if_pos q.1];exact ⟨q.1.symm,rfl⟩
    · rw [if_neg (by omega)];exact ⟨q.1.symm,rfl⟩
    · exact absurd q.1 h2.1
   have h:=hsub _ List.filter_sublist i hi2
   have e3:(lead l).getD i default=kI3 ((l.filter kC8).getD i default):=by
    unfold lead;rw [zD,zD,List.getElem?_map,zG hi2];rfl
   have hz:=hk _ (kAM hi2);rw [e3,hz.1,hz.2];rw [List.any_eq_false] at h ⊢;intro x hx e;unfold lead at hx;rw [← List.map_take] at hx;obtain ⟨z,hz2,rfl⟩:=List.mem_map.1 hx;have hz3:=hk z (List.mem_of_mem_take hz2);refine h z hz2 ?_;have e:=kCR.1 e;rw [hz3.1,hz3.2] at e;exact kCR.2 e
theorem lead_plain {l:List Bnd} (hl:InvV l):kCF (lead l):=fun y hy=>by
 obtain ⟨x,_,_,⟨_,q2⟩ | ⟨_,q2⟩⟩:=kGB hl hy
 · rw [q2]
 · rw [q2]
theorem lead_name {l:List Bnd} (hl:InvV l) (ha:kGC l=true) {v:Str} (h:Has l 1 v):kAZ (xN v)=true:=by
 obtain ⟨y,hy,h1,h2⟩:=kC9.1 h;have:=(List.all_eq_true.1 ha) y hy;rw [Bool.or_eq_true,beq_iff_eq] at this;have hok:=this.resolve_left (by omega);unfold kC8 at hok;rw [zA,zA,decide_eq_true_eq,decide_eq_true_eq,h2] at hok;rcases (hl.good y hy).2 with q | q | q
 · rw [h2] at q;exact xN_name q.2 hok.2.1 hok.2.2
 · omega
 · omega
theorem kI2 {l:List Bnd} (hl:InvV l) (ha:kGC l=true) {x:Lin} (hx:kAB x=true) (hv:∀ n ∈ kAL x,Has l 1 n):kAB (kAD (lead l) x)=true∧(kAD (lead l) x).terms=renT xN x.terms:=by
 have hb:=lead_by hl ha;have hrun:=hb.run hx hv
 have hs:Srt (renT xN x.terms):=by
  unfold renT;exact List.pairwise_map.2 ((kAV hx).1.imp fun q=>xN_slt q)
 have hn:Nz (renT xN x.terms):=fun t ht=>by
  obtain ⟨u,hu,rfl⟩:=List.mem_map.1 ht;exact (kAV hx).2.1 u hu
 refine ⟨subRaw_ok (f:=xN) hx (fun t ht=>?_) ?_,srt_perm hrun.srt hs hrun.nz hn hrun.perm⟩
 · have h:=hv _ (List.mem_map.2 ⟨t,ht,rfl⟩)
   exact ⟨hb.d _ h,lead_name hl ha h⟩
 · exact (kAV hx).1.imp fun q e=>by rw [xN_inj e,kCG] at q;cases q
theorem lead_ok {s:Sch} (hv:kAI s=true) (ha:kGC (kAG s)=true):kBO (lead (kAG s)) s=true:=by
 have hl:=kA5 hv;have hp:=lead_plain hl;obtain ⟨h1,h2,h3,h4,h5⟩:=kAO hv
 have one:∀ t ∈ allT s,kA0 (lead (kAG s)) t.shape=true:=fun t ht=>by
  have hvt:=kBM (kBV hv t ht);unfold kA0 dimsOk;rw [zA,List.all_eq_true];refine ⟨fun x hx=>(kI2 hl ha (hvt.2.2.2 x hx) (fun n hn=>has_sch hv ht hx hn)).1,decide_eq_true ?_⟩;rw [row_none hp];have:=hvt.2.2.1
  simpa using this
 unfold kBO;rw [hv,lead_valid hl,Bool.true_and,Bool.true_and,zA,zA,List.all_eq_true,List.all_eq_true];exact ⟨fun t ht=>one t (by unfold allT;exact List.mem_append.2 (.inl ht)),one _ (by unfold allT;exact List.mem_append.2 (.inr (List.mem_singleton.2 rfl))),fun x hx=>(kI2 hl ha (h5 x hx) (fun n hn=>has_wh hv hx hn)).1⟩
theorem sub_valid {b:List Bnd} {s:Sch} (ho:kBO b s=true):kAI (kBH b s)=true:=by
 unfold kBO at ho;rw [zA,zA,zA,zA] at ho;obtain ⟨hv,hb,hp,hr,hw⟩:=ho;obtain ⟨h1,h2,h3,h4,h5⟩:=kAO hv;refine kH1 (by show (s.params.map _).length≤12;rw [List.length_map];exact h1) (by show (s.wh.map _).length≤60;rw [List.length_map];exact h2) ?_ (kET hb h4 hr) ?_
 · intro t ht
   obtain ⟨u,hu,rfl⟩:=List.mem_map.1 ht;exact kET hb (h3 u hu) ((List.all_eq_true.1 hp) u hu)
 · intro x hx
   obtain ⟨y,hy,rfl⟩:=List.mem_map.1 hx;exact (List.all_eq_true.1 hw) y hy
theorem lead_vars {s:Sch} (hv:kAI s=true) (ha:kGC (kAG s)=true):kAG (kBH (lead (kAG s)) s)=(kAG s).map (mapB leadF):=by
 have hl:=kA5 hv;have hb:=lead_by hl ha;have hin:∀ t ∈ allT s,InT (kAG s) t:=fun t ht=>inT_of hv ht
 have ec:cksS (kBH (lead (kAG s)) s)=(cksS s).map (ckS (lead (kAG s)) leadF):=by
  have e1:allT (kBH (lead (kAG s)) s)=(allT s).map (kAP (lead (kAG s))):=by unfold allT kBH;rw [List.map_append];rfl
  unfold cksS;rw [e1,kFB hb _ hin,List.map_append]
  congr 1
  show (s.wh.map (kAD (lead (kAG s)))).map Sum.inr=_
  rw [List.map_map,List.map_map];rfl
 have hx:∀ x,Sum.inr x ∈ cksS s→kAB x=true:=fun x hx=>by
  rcases List.mem_append.1 hx with hx | hx
  · obtain ⟨t,ht,q⟩:=List.mem_flatMap.1 hx
    unfold cksT at q;rcases List.mem_append.1 q with q | q
    · split at q
      · cases q
      · cases List.mem_singleton.1 q
    · rcases List.mem_append.1 q with q | q
      · obtain ⟨y,hy,e⟩:=List.mem_map.1 q
        cases e;exact (kBM (kBV hv t ht)).2.2.2 x hy
      · split at q
        · cases List.mem_singleton.1 q
        · cases q
  · obtain ⟨y,hy,e⟩:=List.mem_map.1 hx
    cases e;exact (kAO hv).2.2.2.2 x hy
 have ep:∀ C:List Ck,(∀ c ∈ C,c ∈ cksS s)→psOf (C.map (ckS (lead (kAG s)) leadF))=(psOf C).map (fun p=>(p.1,leadF p.1 p.2)):=fun C=>by
  induction C with
  | nil=>intro _;rfl
  | cons c C ih =>
    intro hc;have e1:psOf (c :: C)=ckP c++psOf C:=List.flatMap_cons;have e2:psOf ((c :: C).map (ckS (lead (kAG s)) leadF))=ckP (ckS (lead (kAG s)) leadF c)++psOf (C.map (ckS (lead (kAG s)) leadF)):=List.flatMap_cons;rw [e1,e2,List.map_append,ih (fun d hd=>hc d (zO _ hd))]
    congr 1
    cases c with
    | inl p=>rfl
    | inr x =>
      have hm:=hc _ (zM ..);have e:=(kI2 hl ha (hx x hm) (fun n hn=>has_cks hv hm (p:=(1,n)) (List.mem_map.2 ⟨n,hn,rfl⟩))).2
      show (kAL (kAD (lead (kAG s)) x)).map _=((kAL x).map _).map _
      unfold kAL;rw [e];unfold renT;rw [List.map_map,List.map_map,List.map_map,List.map_map];rfl
 rw [kG9 (sub_valid (lead_ok hv ha)),ec,ep _ (fun c hc=>hc)]
 have:=addP_map hb.inj (psOf (cksS s)) [] (fun y hy=>by cases hy) (fun p hp=>by
  obtain ⟨c,hc,q⟩:=List.mem_flatMap.1 hp;exact has_cks hv hc q)
 rw [← kG9 hv] at this;exact this
theorem can_lead {s:Sch} (hv:kAI s=true) (ha:kGC (kAG s)=true):kBG (lead (kAG s)) s=kBH (lead (kAG s)) s∧kBT (lead (kAG s)) s=0∧kDF (kBH (lead (kAG s)) s)=0∧can (kBH (lead (kAG s)) s)=can s:=by
 have ho:=lead_ok hv ha;have hc:=sub_valid ho;have hT:=inv_map hv hc (lead_by (kA5 hv) ha) (lead_vars hv ha);have hdl:∀ t ∈ allT s,∀ x ∈ t.shape.dims,kAB (kAD (lead (kAG s)) x)=true:=fun t ht x hx=>(kI2 (kA5 hv) ha ((kBM (kBV hv t ht)).2.2.2 x hx) (fun n hn=>has_sch hv ht hx hn)).1
 have one:∀ t ∈ allT s,kAP (ren (kAG (kBH (lead (kAG s)) s))) (kAP (lead (kAG s)) t)=kAP (ren (kAG s)) t:=fun t ht=>hT.typ (kBM (kBV hv t ht)).2.2.2 (inT_of hv ht) (hdl t ht)
 refine ⟨by unfold kBG;rw [if_pos ho],by unfold kBT;rw [if_pos ho],?_,?_⟩
 · unfold kDF kBT
   rw [if_pos hc];have:=kDE hc;unfold canOk at this;rw [if_pos this]
 · unfold can
   rw [if_pos (kDE hc),if_pos (kDE hv)]
   show (⟨_,_,_⟩:Sch)=⟨_,_,_⟩
   refine sch_mk ?_ (one _ (List.mem_append.2 (.inr (List.mem_singleton.2 rfl)))) ?_
   · show (s.params.map (kAP (lead (kAG s)))).map _=_
     rw [List.map_map];exact List.map_congr_left fun t ht=>one t (List.mem_append.2 (.inl ht))
   · show tidy ((s.wh.map (kAD (lead (kAG s)))).map _)=tidy _
     rw [List.map_map];refine congrArg tidy (List.map_congr_left fun x hx=>?_);exact hT.lin ((kAO hv).2.2.2.2 x hx) (fun n hn=>has_wh hv hx hn) (kI2 (kA5 hv) ha ((kAO hv).2.2.2.2 x hx) (fun n hn=>has_wh hv hx hn)).1
theorem nine_no {s:Sch} {q:Int} {k:Nat} (hq:q=1∨q=2∨q=3) (h:¬ cntK q ((kAG s).take k)≤9):nineB s=false:=by
 have hle:cntK q ((kAG s).take k)≤cntK q (kAG s):=(List.take_sublist _ _).countP_le;unfold nineB;rw [Bool.and_eq_false_iff,decide_eq_false_iff_not];refine .inl fun h2=>?_
 rcases hq with rfl | rfl | rfl
 · omega
 · omega
 · omega
theorem nine_yes {s:Sch} (h1:cntK 1 (kAG s)≤9) (h2:cntK 2 (kAG s)≤9) (h3:cntK 3 (kAG s)≤9):nineB s=(((kAG s).length:Int)==((kAG (frontS s)).length:Int)):=by
 unfold nineB;rw [decide_eq_true ⟨h1,h2,h3⟩,Bool.true_and,Bool.eq_iff_iff,decide_eq_true_eq,beq_iff_eq];omega
theorem cntV_start (l:List Bnd):cntV l 0=[.int .i64 0,.int .i64 0,.int .i64 0,.int .i64 0]:=by
 unfold cntV cntK;rfl
theorem law12_nine {S:Blk} {s:Sch} {cs:List Value} {w:World} (h:RSch.rd S w cs s) (hv:kAI s=true) :
 Calls Tryz.prog 9 #[.agg cs.toArray] w fun e w'=>e= .returned (.bool (nineB s))∧Below w.heap.size w w':=by
 have HC1:=hJ (fun (W:World) (hW:Below w.heap.size w W)=>kHI (RSch.below h hW) hv);have HInv:=hJ (kA5 hv);have HLen:=hJ (kB3 (s:=s));have HNo:=hJ (fun (q:Int) (k:Nat) q1 q2=>nine_no (s:=s) (q:=q) (k:=k) q1 q2);have HYes:=hJ (nine_yes (s:=s));obtain ⟨_,_,_,rfl,⟨ap,cp,rfl,hp⟩,⟨at_,ct,rfl,ht⟩,⟨aq,cq,rfl,hq⟩⟩:=h
 have HC2:Hid (∀ W,Below w.heap.size w W→Calls Tryz.prog 10 #[.agg #[.slice ap s.params.length cp,.string s.result.elem,.string s.result.shape.row,.slice at_ s.result.shape.dims.length ct,.slice none 0 0]] W fun e w'=>(∃ v,e= .returned v∧Own RBnd 42 (fun _=>False) w' W.heap.size v (kAG (frontS s)))∧Below W.heap.size W w') :=
  hJ (fun W hW=>kHI (s:=frontS s) (S:=S) ⟨_,_,_,rfl,⟨ap,cp,rfl,hp.below hW⟩,⟨at_,ct,rfl,ht.below hW⟩,⟨none,0,rfl,Sl.empty _ _ _⟩⟩ (front_valid hv))
 clear hp ht hq hv;obtain ⟨B0,ya,hW0⟩:=box1 w 29 [.slice ap s.params.length cp,.string s.result.elem,.string s.result.shape.row,.slice at_ s.result.shape.dims.length ct,.slice aq s.wh.length cq];have xa0:=box0 ya 0 _ rfl;have xa1:=box0 ya 1 _ rfl;have xa2:=box0 ya 2 _ rfl;have xa3:=box0 ya 3 _ rfl;have xa4:=box0 ya 4 _ rfl;have bka:Bx _ _ _ _:=ya;clear ya;have HX:=hJ bka;clear bka;go_enter func9,ntmps9
 go_wp2_with fail
 refine (HC1.out _ B0.out).mono ?_;rintro e w2 ⟨⟨v,rfl,hown⟩,hb2⟩;have HO2:=hJ hown;have HW2:=hJ (B0.out.trans (hb2.mono B0.out.size));have HX2:=hJ (HX.out.below hb2 HX.out.lt);clear xa0 xa1 xa2 xa3 xa4 B0 HX HC1 hown hb2 hW0;have x0:=HX2.out.cell 0 _ rfl;have x1:=HX2.out.cell 1 _ rfl;have x2:=HX2.out.cell 2 _ rfl;have x3:=HX2.out.cell 3 _ rfl;have x4:=HX2.out.cell 4 _ rfl
 go_wp2_with fail
 refine (HC2.out _ HW2.out).mono ?_;rintro e w3 ⟨⟨v3,rfl,hown3⟩,hb3⟩;obtain ⟨a3,m3,c3,rfl⟩:=hown3.shape;obtain ⟨a5,c5,rfl,hs5⟩:=(HO2.out.below hb3).sl;have HW3:=hJ (HW2.out.trans (hb3.mono HW2.out.size));have HS5:=hJ (hs5.mono (S':=fun q=>q<w3.heap.size) (fun q _ hlt=>hlt))
 have HM3:Hid (m3=(kAG (frontS s)).length):=hJ (by
  obtain ⟨a9,c9,e9,_⟩:=hown3.sl;rw [Value.slice.injEq] at e9;exact e9.2.1)
 have hc3:m3≤9223372036854775807:=by
  obtain ⟨a9,c9,e9,h9⟩:=hown3.sl;rw [Value.slice.injEq] at e9;rw [e9.2.1];exact h9.small
 rw [← HM3.out] at HYes;clear HO2 HX2 HW2 hs5 hown3 hb3 x0 x1 x2 x3 x4 HM3 HC2;generalize kAG s=L at *;have hn1:=HS5.out.small;have hn3:L.length≤3000:=HLen.out;have HG0:Hid (Bx (w3.alloc (.cells #[.int .i64 0,.int .i64 0,.int .i64 0,.int .i64 0] 55)) w3.heap.size 55 (cntV L 0)):=hJ (by rw [cntV_start];exact Bx.fresh w3 55 [.int .i64 0,.int .i64 0,.int .i64 0,.int .i64 0]);have HK0:Hid (∀ q,q<w3.heap.size→(w3.alloc (.cells #[.int .i64 0,.int .i64 0,.int .i64 0,.int .i64 0] 55)).heap[q]? =w3.heap[q]?):=hJ (fun q hq=>Below.heap_alloc _ _ _ hq);have HB0:Hid (Below w.heap.size w (w3.alloc (.cells #[.int .i64 0,.int .i64 0,.int .i64 0,.int .i64 0] 55))):=hJ (HW3.out.alloc HW3.out.size _)
 go_wp2_with fail
 go_loopw [18] (fun i wr=>∃ k:Nat,k≤L.length∧i= .int .i64 k∧Hid (Bx wr w3.heap.size 55 (cntV L k))∧Hid (cntK 1 (L.take k)≤9∧cntK 2 (L.take k)≤9∧cntK 3 (L.take k)≤9)∧Hid (∀ q,q<w3.heap.size→wr.heap[q]? =w3.heap[q]?)∧Below w.heap.size w wr) (fun i _=>L.length - (intOf i).toNat)
 case atStart=>exact ⟨0,Nat.zero_le _,rfl,HG0,hJ ⟨by rw [List.take_zero];exact Nat.zero_le _,by rw [List.take_zero];exact Nat.zero_le _,by rw [List.take_zero];exact Nat.zero_le _⟩,HK0,HB0.out⟩
 case round =>
  clear HG0 HK0 HB0;obtain ⟨k,hk,rfl,HG,HC,HK,hB⟩:=hrel;by_cases hlt:k<L.length
  · have HSr:=hJ (HS5.out.frame (w':=wr) (fun q hq hlt=>HK.out q hq))
    obtain ⟨b,off,rfl,hbW,_⟩:=HSr.out.form k hlt;obtain ⟨t,d,hr,⟨⟨ta,tc,rfl,hta⟩,⟨da,dc,rfl,hda⟩⟩,e0,e1,e2,e3,e4,e5,e6⟩:=HSr.out.bnd k hlt;have HGood:=hJ (HInv.out.good _ (kAM hlt));have HRen:=hJ (renAt1 hlt HGood.out.1);have HCn:=hJ (fun q=>cnt_next hlt q);have hc1:=kJB hn3 1 k;have hc2:=kJB hn3 2 k;have hc3':=kJB hn3 3 k;have HCV0:Hid (cntV L k=[.int .i64 0,.int .i64 (cntK 1 (L.take k)),.int .i64 (cntK 2 (L.take k)),.int .i64 (cntK 3 (L.take k))]):=hJ rfl;obtain ⟨kd,nv,hx⟩:∃ kd nv,L.getD k default=⟨kd,nv,⟨0,[]⟩,⟨⟨#[]⟩,[]⟩,⟨#[]⟩⟩:=⟨_,_,HGood.out.1⟩
    rw [hx] at HRen HGood HCn;simp only [hx,List.length_nil] at e0 e1 e2 e3 e4 e5 e6;have hok:=HGood.out.2;clear hx hr HGood hta hda;obtain ⟨n1,hn1'⟩:∃ q,cntK 1 (L.take k)=q:=⟨_,rfl⟩
    obtain ⟨n2,hn2'⟩:∃ q,cntK 2 (L.take k)=q:=⟨_,rfl⟩
    obtain ⟨n3,hn3'⟩:∃ q,cntK 3 (L.take k)=q:=⟨_,rfl⟩
    rw [hn1'] at hc1 HC HCV0;rw [hn2'] at hc2 HC HCV0;rw [hn3'] at hc3' HC HCV0;have HCe:Hid (cntK 1 (L.take k)=n1∧cntK 2 (L.take k)=n2∧cntK 3 (L.take k)=n3):=hJ ⟨hn1',hn2',hn3'⟩;clear hn1' hn2' hn3';have HGq:=hJ (HCV0.out ▸ HG.out);rcases hok with ⟨hok,-⟩ | ⟨hok,-⟩ | ⟨hok,-⟩
    · skip
      have hkd:kd=1:=hok;subst hkd;have HR1:=hJ ((HRen.out.at1 rfl).2);have HN1:=hJ (show cntK 1 (L.take (k+1))=n1+1 by rw [HCn.out,if_pos rfl,HCe.out.1]);have HNa:=hJ (show cntK 2 (L.take (k+1))=n2 by rw [HCn.out,if_neg (fun e=>absurd (show (1:Int)=2 from e) (by decide)),HCe.out.2.1,Nat.add_zero]);have HNb:=hJ (show cntK 3 (L.take (k+1))=n3 by rw [HCn.out,if_neg (fun e=>absurd (show (1:Int)=3 from e) (by decide)),HCe.out.2.2,Nat.add_zero]);clear HRen HCn;have HP:=hJ (Bx.fresh wr 42 [.int .i64 1,.string nv,.int .i64 0,.slice ta 0 tc,.string ⟨#[]⟩,.slice da 0 dc,.string ⟨#[]⟩]);have HGa:=hJ (HGq.out.alloc (.cells #[.int .i64 1,.string nv,.int .i64 0,.slice ta 0 tc,.string ⟨#[]⟩,.slice da 0 dc,.string ⟨#[]⟩] 42));have hgl:=HG.out.lt;have p0:=HP.out.cell 0 _ rfl;have g1:=HGa.out.cell 1 _ rfl;have v1:=HGa.out.fz 1;have HG1:=hJ (HGa.out.set 1 (.int .i64 ((n1:Int)+1)));have h1:=HG1.out.cell 1 _ rfl;have HP1:Hid (Bx ((wr.alloc (.cells #[.int .i64 1,.string nv,.int .i64 0,.slice ta 0 tc,.string ⟨#[]⟩,.slice da 0 dc,.string ⟨#[]⟩] 42)).setCell ⟨w3.heap.size,1,none⟩ (.int .i64 ((n1:Int)+1))) wr.heap.size 42 [.int .i64 1,.string nv,.int .i64 0,.slice ta 0 tc,.string ⟨#[]⟩,.slice da 0 dc,.string ⟨#[]⟩]):=hJ (HP.out.other (by show w3.heap.size≠_;omega));have HKb:Hid (∀ q,q<w3.heap.size→((wr.alloc (.cells #[.int .i64 1,.string nv,.int .i64 0,.slice ta 0 tc,.string ⟨#[]⟩,.slice da 0 dc,.string ⟨#[]⟩] 42)).setCell ⟨w3.heap.size,1,none⟩ (.int .i64 ((n1:Int)+1))).heap[q]? =w3.heap[q]?):=hJ (fun q hq=>(kAA (by show w3.heap.size≠q;omega)).trans ((Below.heap_alloc _ _ _ (by omega)).trans (HK.out q hq)));have hw3:=HW3.out.size;have HBb:Hid (Below w.heap.size w ((wr.alloc (.cells #[.int .i64 1,.string nv,.int .i64 0,.slice ta 0 tc,.string ⟨#[]⟩,.slice da 0 dc,.string ⟨#[]⟩] 42)).setCell ⟨w3.heap.size,1,none⟩ (.int .i64 ((n1:Int)+1)))):=hJ ((hB.alloc hB.size _).setCell (by show _≤w3.heap.size;exact hw3) _);have HGn:Hid (Bx ((wr.alloc (.cells #[.int .i64 1,.string nv,.int .i64 0,.slice ta 0 tc,.string ⟨#[]⟩,.slice da 0 dc,.string ⟨#[]⟩] 42)).setCell ⟨w3.heap.size,1,none⟩ (.int .i64 ((n1:Int)+1))) w3.heap.size 55 (cntV L (k+1))):=hJ (by rw [HR1.out,HCV0.out,HCe.out.1];exact HG1.out);have r0:=HP1.out.cell 0 _ rfl;clear hgl hw3
      have hL9:=HLen.out;by_cases h9:n1+1≤9
      · have HC9:=hJ (show cntK 1 (L.take (k+1))≤9∧cntK 2 (L.take (k+1))≤9∧cntK 3 (L.take (k+1))≤9 by have q1:=HC.out;have q2:=HN1.out;have q3:=HNa.out;have q4:=HNb.out;omega)
        have q9:decide (9<(n1:Int)+1)=false:=decide_eq_false (by omega);clear hok HC HN1 HNa HNb
        go_wp2_with fail
        go_roundw
        case rel=>exact ⟨k+1,by omega,by go_num,HGn,HC9,HKb,HBb.out⟩
        case measure=>simp [intOf];omega
      · have HBad:=hJ (HNo.out 1 (k+1) (.inl rfl) (by rw [HN1.out];exact h9))
        have q9:decide (9<(n1:Int)+1)=true:=decide_eq_true (by omega);clear hok HC HN1 HNa HNb
        go_wp2_with fail
        go_ret;exact ⟨by rw [HBad.out];rfl,HBb.out⟩
    · skip
      have hkd:kd=2:=hok;subst hkd;have HR1:=hJ ((HRen.out.at2 rfl).2);have HN1:=hJ (show cntK 2 (L.take (k+1))=n2+1 by rw [HCn.out,if_pos rfl,HCe.out.2.1]);have HNa:=hJ (show cntK 1 (L.take (k+1))=n1 by rw [HCn.out,if_neg (fun e=>absurd (show (2:Int)=1 from e) (by decide)),HCe.out.1,Nat.add_zero]);have HNb:=hJ (show cntK 3 (L.take (k+1))=n3 by rw [HCn.out,if_neg (fun e=>absurd (show (2:Int)=3 from e) (by decide)),HCe.out.2.2,Nat.add_zero]);clear HRen HCn;have HP:=hJ (Bx.fresh wr 42 [.int .i64 2,.string nv,.int .i64 0,.slice ta 0 tc,.string ⟨#[]⟩,.slice da 0 dc,.string ⟨#[]⟩]);have HGa:=hJ (HGq.out.alloc (.cells #[.int .i64 2,.string nv,.int .i64 0,.slice ta 0 tc,.string ⟨#[]⟩,.slice da 0 dc,.string ⟨#[]⟩] 42));have hgl:=HG.out.lt;have p0:=HP.out.cell 0 _ rfl;have g1:=HGa.out.cell 2 _ rfl;have v1:=HGa.out.fz 2;have HG1:=hJ (HGa.out.set 2 (.int .i64 ((n2:Int)+1)));have h1:=HG1.out.cell 2 _ rfl;have HP1:Hid (Bx ((wr.alloc (.cells #[.int .i64 2,.string nv,.int .i64 0,.slice ta 0 tc,.string ⟨#[]⟩,.slice da 0 dc,.string ⟨#[]⟩] 42)).setCell ⟨w3.heap.size,2,none⟩ (.int .i64 ((n2:Int)+1))) wr.heap.size 42 [.int .i64 2,.string nv,.int .i64 0,.slice ta 0 tc,.string ⟨#[]⟩,.slice da 0 dc,.string ⟨#[]⟩]):=hJ (HP.out.other (by show w3.heap.size≠_;omega));have HKb:Hid (∀ q,q<w3.heap.size→((wr.alloc (.cells #[.int .i64 2,.string nv,.int .i64 0,.slice ta 0 tc,.string ⟨#[]⟩,.slice da 0 dc,.string ⟨#[]⟩] 42)).setCell ⟨w3.heap.size,2,none⟩ (.int .i64 ((n2:Int)+1))).heap[q]? =w3.heap[q]?):=hJ (fun q hq=>(kAA (by show w3.heap.size≠q;omega)).trans ((Below.heap_alloc _ _ _ (by omega)).trans (HK.out q hq)));have hw3:=HW3.out.size;have HBb:Hid (Below w.heap.size w ((wr.alloc (.cells #[.int .i64 2,.string nv,.int .i64 0,.slice ta 0 tc,.string ⟨#[]⟩,.slice da 0 dc,.string ⟨#[]⟩] 42)).setCell ⟨w3.heap.size,2,none⟩ (.int .i64 ((n2:Int)+1)))):=hJ ((hB.alloc hB.size _).setCell (by show _≤w3.heap.size;exact hw3) _);have HGn:Hid (Bx ((wr.alloc (.cells #[.int .i64 2,.string nv,.int .i64 0,.slice ta 0 tc,.string ⟨#[]⟩,.slice da 0 dc,.string ⟨#[]⟩] 42)).setCell ⟨w3.heap.size,2,none⟩ (.int .i64 ((n2:Int)+1))) w3.heap.size 55 (cntV L (k+1))):=hJ (by rw [HR1.out,HCV0.out,HCe.out.2.1];exact HG1.out);have r0:=HP1.out.cell 0 _ rfl;clear hgl hw3
      have hL9:=HLen.out;by_cases h9:n2+1≤9
      · have HC9:=hJ (show cntK 1 (L.take (k+1))≤9∧cntK 2 (L.take (k+1))≤9∧cntK 3 (L.take (k+1))≤9 by have q1:=HC.out;have q2:=HN1.out;have q3:=HNa.out;have q4:=HNb.out;omega)
        have q9:decide (9<(n2:Int)+1)=false:=decide_eq_false (by omega);clear hok HC HN1 HNa HNb
        go_wp2_with fail
        go_roundw
        case rel=>exact ⟨k+1,by omega,by go_num,HGn,HC9,HKb,HBb.out⟩
        case measure=>simp [intOf];omega
      · have HBad:=hJ (HNo.out 2 (k+1) (.inr (.inl rfl)) (by rw [HN1.out];exact h9))
        have q9:decide (9<(n2:Int)+1)=true:=decide_eq_true (by omega);clear hok HC HN1 HNa HNb
        go_wp2_with fail
        go_ret;exact ⟨by rw [HBad.out];rfl,HBb.out⟩
    · skip
      have hkd:kd=3:=hok;subst hkd;have HR1:=hJ ((HRen.out.at3 rfl).2);have HN1:=hJ (show cntK 3 (L.take (k+1))=n3+1 by rw [HCn.out,if_pos rfl,HCe.out.2.2]);have HNa:=hJ (show cntK 1 (L.take (k+1))=n1 by rw [HCn.out,if_neg (fun e=>absurd (show (3:Int)=1 from e) (by decide)),HCe.out.1,Nat.add_zero]);have HNb:=hJ (show cntK 2 (L.take (k+1))=n2 by rw [HCn.out,if_neg (fun e=>absurd (show (3:Int)=2 from e) (by decide)),HCe.out.2.1,Nat.add_zero]);clear HRen HCn;have HP:=hJ (Bx.fresh wr 42 [.int .i64 3,.string nv,.int .i64 0,.slice ta 0 tc,.string ⟨#[]⟩,.slice da 0 dc,.string ⟨#[]⟩]);have HGa:=hJ (HGq.out.alloc (.cells #[.int .i64 3,.string nv,.int .i64 0,.slice ta 0 tc,.string ⟨#[]⟩,.slice da 0 dc,.string ⟨#[]⟩] 42));have hgl:=HG.out.lt;have p0:=HP.out.cell 0 _ rfl;have g1:=HGa.out.cell 3 _ rfl;have v1:=HGa.out.fz 3;have HG1:=hJ (HGa.out.set 3 (.int .i64 ((n3:Int)+1)));have h1:=HG1.out.cell 3 _ rfl;have HP1:Hid (Bx ((wr.alloc (.cells #[.int .i64 3,.string nv,.int .i64 0,.slice ta 0 tc,.string ⟨#[]⟩,.slice da 0 dc,.string ⟨#[]⟩] 42)).setCell ⟨w3.heap.size,3,none⟩ (.int .i64 ((n3:Int)+1))) wr.heap.size 42 [.int .i64 3,.string nv,.int .i64 0,.slice ta 0 tc,.string ⟨#[]⟩,.slice da 0 dc,.string ⟨#[]⟩]):=hJ (HP.out.other (by show w3.heap.size≠_;omega));have HKb:Hid (∀ q,q<w3.heap.size→((wr.alloc (.cells #[.int .i64 3,.string nv,.int .i64 0,.slice ta 0 tc,.string ⟨#[]⟩,.slice da 0 dc,.string ⟨#[]⟩] 42)).setCell ⟨w3.heap.size,3,none⟩ (.int .i64 ((n3:Int)+1))).heap[q]? =w3.heap[q]?):=hJ (fun q hq=>(kAA (by show w3.heap.size≠q;omega)).trans ((Below.heap_alloc _ _ _ (by omega)).trans (HK.out q hq)));have hw3:=HW3.out.size;have HBb:Hid (Below w.heap.size w ((wr.alloc (.cells #[.int .i64 3,.string nv,.int .i64 0,.slice ta 0 tc,.string ⟨#[]⟩,.slice da 0 dc,.string ⟨#[]⟩] 42)).setCell ⟨w3.heap.size,3,none⟩ (.int .i64 ((n3:Int)+1)))):=hJ ((hB.alloc hB.size _).setCell (by show _≤w3.heap.size;exact hw3) _);have HGn:Hid (Bx ((wr.alloc (.cells #[.int .i64 3,.string nv,.int .i64 0,.slice ta 0 tc,.string ⟨#[]⟩,.slice da 0 dc,.string ⟨#[]⟩] 42)).setCell ⟨w3.heap.size,3,none⟩ (.int .i64 ((n3:Int)+1))) w3.heap.size 55 (cntV L (k+1))):=hJ (by rw [HR1.out,HCV0.out,HCe.out.2.2];exact HG1.out);have r0:=HP1.out.cell 0 _ rfl;clear hgl hw3
      have hL9:=HLen.out;by_cases h9:n3+1≤9
      · have HC9:=hJ (show cntK 1 (L.take (k+1))≤9∧cntK 2 (L.take (k+1))≤9∧cntK 3 (L.take (k+1))≤9 by have q1:=HC.out;have q2:=HN1.out;have q3:=HNa.out;have q4:=HNb.out;omega)
        have q9:decide (9<(n3:Int)+1)=false:=decide_eq_false (by omega);clear hok HC HN1 HNa HNb
        go_wp2_with fail
        go_roundw
        case rel=>exact ⟨k+1,by omega,by go_num,HGn,HC9,HKb,HBb.out⟩
        case measure=>simp [intOf];omega
      · have HBad:=hJ (HNo.out 3 (k+1) (.inr (.inr rfl)) (by rw [HN1.out];exact h9))
        have q9:decide (9<(n3:Int)+1)=true:=decide_eq_true (by omega);clear hok HC HN1 HNa HNb
        go_wp2_with fail
        go_ret;exact ⟨by rw [HBad.out];rfl,HBb.out⟩
  · obtain rfl:k=L.length:=by omega
    have HV:=hJ (by
     have h9:=HC.out;rw [List.take_length] at h9;exact HYes.out h9.1 h9.2.1 h9.2.2)
    go_wp2_with fail
    go_ret;exact ⟨by rw [HV.out];rfl,hB⟩
theorem allT_lt {s:Sch} {k:Nat} (h:k<s.params.length):(allT s).getD k default=s.params.getD k default:=by
 unfold allT;rw [zD,zD,List.getElem?_append_left h]
theorem allT_last (s:Sch):(allT s).getD s.params.length default=s.result:=by
 unfold allT;rw [zD,List.getElem?_append_right (zR _)];simp
theorem sch_badA {b:List Bnd} {s:Sch} {i:Nat} (hi:i<s.params.length+1) (h:kA0 b ((allT s).getD i default).shape=false):kBG b s=kEQ∧kBT b s=3:=by
 by_cases h1:i<s.params.length
 · rw [allT_lt h1] at h;exact sch_badP h1 h
 · obtain rfl:i=s.params.length:=by omega
   rw [allT_last] at h;exact sch_badR h
theorem allT_validAt {s:Sch} (hv:kAI s=true) {i:Nat} (hi:i<s.params.length+1):kAH ((allT s).getD i default)=true:=by
 have hp:=kAO hv;by_cases h1:i<s.params.length
 · rw [allT_lt h1];exact hp.2.2.1 _ (kAM h1)
 · obtain rfl:i=s.params.length:=by omega
   rw [allT_last];exact hp.2.2.2.1
theorem ref12_SubstScheme {S T:Blk} {s:Sch} {cs:List Value} {w:World} (h:RSch.rd S w cs s) (hv:kAI s=true) (b:List Bnd) (a:Option Addr) (nb cb:Nat) (hbs:Sl RBnd T w a nb cb b) (hb:kA8 b=true) :
 Calls Tryz.prog 31 #[.agg cs.toArray,.slice a nb cb] w fun e w'=>(∃ ds,e= .returned (.tuple #[.agg ds.toArray,.int .i64 (kBT b s)])∧kFD (fun k=>¬kCF b∧T k∧k<w.heap.size) w.heap.size w' ds (kBG b s))∧Below w.heap.size w w':=by
 generalize hX:(fun k=>¬kCF b∧T k∧k<w.heap.size:Blk)=X;have HXe:Hid (∀ q,(¬kCF b∧T q∧q<w.heap.size)→X q):=hJ (fun q h=>by rw [← hX];exact h);have HXw:Hid (∀ q,X q→q<w.heap.size):=hJ (fun q h=>by rw [← hX] at h;exact h.2.2);clear hX;have hpl12:s.params.length≤1000000:=by have:=(kAO hv).1;omega
 have HCV:Hid (∀ W,Below w.heap.size w W→Calls Tryz.prog 30 #[.agg cs.toArray] W fun e w'=>e= .returned (.bool true)∧Below W.heap.size W w') :=
  hJ (fun W hW=>hv ▸ kDJ (RSch.below h hW) (kGS hv) hpl12)
 have HCA:Hid (∀ W,Below w.heap.size w W→Calls Tryz.prog 17 #[.agg cs.toArray] W fun e w'=>(∃ v,e= .returned v∧Own RTyp 27 (fun k=>S k∧k<w.heap.size) w' W.heap.size v (allT s))∧Below W.heap.size W w') :=
  hJ (fun W hW=>kFN (RSch.below (RSch.mono h (fun k hk hlt=>⟨hk,hlt⟩)) hW) hpl12)
 have HCB:Hid (∀ W,Below w.heap.size w W→Calls Tryz.prog 81 #[.slice a nb cb] W fun e w'=>e= .returned (.bool true)∧Below W.heap.size W w') :=
  hJ (fun W hW=>kD3 b a nb cb W (hbs.below hW) hb)
 have HCT:=hJ (fun (S':Blk) (W:World) (hW:Below w.heap.size w W) (x:Typ) (ds:List Value) (hx:RTyp.rd S' W ds x) (hvx:kAH x=true)=>(ref12_Subst hx hvx b a nb cb ((hbs.mono (S':=fun k=>T k∧k<w.heap.size) (fun k h1 h2=>⟨h1,h2⟩)).below hW) hb).mono fun e w' ⟨⟨ds,he,hr⟩,hb⟩=>(⟨⟨ds,he,RTyp.mono hr (fun k hk _=>hk.elim (fun q=>.inl (HXe.out k ⟨q.1,q.2.1.1,q.2.1.2⟩)) .inr)⟩,hb⟩:(∃ ds:List Value,e=Ending.returned (.tuple #[.agg ds.toArray,.int .i64 (kCL b x.shape)])∧RTyp.rd (fun k=>X k∨W.heap.size≤k) w' ds (kIQ b x))∧Below W.heap.size W w'));have HCL:=hJ (fun (W:World) (hW:Below w.heap.size w W) (x:Lin) (ds:List Value) (hx:RLin.rd S W ds x) (hvx:kAB x=true)=>ref04_Subst hx hvx b a nb cb (hbs.below hW) (kDN hb));have HAV:=hJ (fun (i:Nat) (q:i<s.params.length+1)=>allT_validAt hv q);have HBadA:=hJ (fun (i:Nat) (q:i<s.params.length+1)=>sch_badA (b:=b) q);have HA1:=hJ (fun (i:Nat) (q:i<s.params.length)=>allT_lt q);have HA2':=hJ (allT_last s);have hAl:(allT s).length=s.params.length+1:=by unfold allT;rw [zP];rfl
 obtain ⟨_,_,_,rfl,⟨ap,cp,rfl,hps⟩,⟨ar,cr,rfl,hrs⟩,⟨aq,cq,rfl,hqs⟩⟩:=h;have HPs:=hJ hps;have HRs:=hJ hrs;have HQs:=hJ hqs;have HV:=hJ (kAO hv);have HGood:=hJ (fun q1 q2 q3=>sch_good (b:=b) (s:=s) hv hb q1 q2 q3);have hpm:=hps.small;have hqm:=hqs.small;have hp12:=(kAO hv).1;have hq60:=(kAO hv).2.1;clear hps hrs hqs hbs hv hb;generalize hnn:s.params.length=n at *;generalize hmm:s.wh.length=m at *;have HN:=hJ hnn;have HM:=hJ hmm;clear hnn hmm;obtain ⟨B0,ya,yb,hW0⟩:=box2 w 29 [.slice ap n cp,.string s.result.elem,.string s.result.shape.row,.slice ar s.result.shape.dims.length cr,.slice aq m cq] 29 [.slice none 0 0,.string ⟨#[]⟩,.string ⟨#[]⟩,.slice none 0 0,.slice none 0 0];have xa0:=box0 ya 0 _ rfl;have xa1:=box0 ya 1 _ rfl;have xa2:=box0 ya 2 _ rfl;have xa3:=box0 ya 3 _ rfl;have xa4:=box0 ya 4 _ rfl;have xb0:=box0 yb 0 _ rfl;have xb1:=box0 yb 1 _ rfl;have xb2:=box0 yb 2 _ rfl;have xb3:=box0 yb 3 _ rfl;have xb4:=box0 yb 4 _ rfl;have bka:Bx _ _ _ _:=ya;have bkb:Bx _ _ _ _:=yb;clear ya yb;have HA0:=hJ bka;have HR0:=hJ bkb;clear bka bkb;go_enter func31,ntmps31
 go_wp2_with fail
 refine (HCV.out _ B0.out).mono ?_;rintro e w1 ⟨rfl,hb1⟩;have hW1:=B0.out.trans (hb1.mono B0.out.size)
 go_wp2_with fail
 refine (HCB.out _ hW1).mono ?_;rintro e w2 ⟨rfl,hb2⟩;have HW:=hJ (hW1.trans (hb2.mono hW1.size));have HA2:=hJ ((HA0.out.below hb1 HA0.out.lt).below hb2 (HA0.out.below hb1 HA0.out.lt).lt);have HR2:=hJ ((HR0.out.below hb1 HR0.out.lt).below hb2 (HR0.out.below hb1 HR0.out.lt).lt);have hlR:=HR2.out.lt;have hlA:=HA2.out.lt;clear xa0 xa1 xa2 xa3 xa4 xb0 xb1 xb2 xb3 xb4 hb1 hb2 hW1 HR0 HA0 B0 HCV HCB;obtain ⟨w3,hw3⟩:∃ q,q=w2.alloc (.cells #[.slice none 0 0,.string ⟨#[]⟩,.string ⟨#[]⟩,.slice none 0 0,.slice none 0 0] 29):=⟨_,rfl⟩
 have hfold:=hw3.symm;have HG3:Hid (Bx w3 w2.heap.size 29 [.slice none 0 0,.string ⟨#[]⟩,.string ⟨#[]⟩,.slice none 0 0,.slice none 0 0]):=hJ (by rw [hw3];exact Bx.fresh _ _ _);have HB3:Hid (Below w2.heap.size w2 w3):=hJ (by rw [hw3];exact (zB _ _).alloc (zR _) _);clear hw3;have HA3:=hJ (HA2.out.below HB3.out hlA);have y0:=HA3.out.cell 0 _ rfl;have y1:=HA3.out.cell 1 _ rfl;have y2:=HA3.out.cell 2 _ rfl;have y3:=HA3.out.cell 3 _ rfl;have y4:=HA3.out.cell 4 _ rfl
 go_wp2_with fail
 refine (HCA.out w3 (HW.out.trans (HB3.out.mono HW.out.size))).mono ?_;rintro e w4 ⟨⟨v,rfl,hown⟩,hb4⟩;obtain ⟨al,cl,rfl,hsl⟩:=hown.sl;rw [hAl] at hsl ⊢;have HLs:=hJ hsl;have HG4:=hJ (HG3.out.below hb4 HG3.out.lt);have HB4:=hJ (HB3.out.trans (hb4.mono HB3.out.size));have HA4:=hJ (HA3.out.below hb4 HA3.out.lt);have HR4:=hJ ((HR2.out.below HB3.out HR2.out.lt).below hb4 (HR2.out.below HB3.out HR2.out.lt).lt);have hz3:=hb4.size;have hz4:=HB3.out.size;clear hown hsl hb4 y0 y1 y2 y3 y4;have hzG:=HG3.out.lt;have hzW:=HW.out.size
 go_wp2_with fail
 have HNe:Hid (∀ q,(X q∨w4.heap.size≤q)→q≠w2.heap.size∧w2.heap.size≠q):=hJ (fun q hq=>by
  rcases hq with r | r
  · have:=HXw.out q r;exact ⟨by omega,by omega⟩
  · exact ⟨by omega,by omega⟩)
 go_loopw [8] (fun i wr=>∃ (k:Nat) (v0 c1 c2 c3:Value),k≤n+1∧i= .int .i64 k∧Hid (∀ j,j<k→kA0 b ((allT s).getD j default).shape=true)∧Hid (Own RTyp 27 (fun q=>X q∨w4.heap.size≤q) wr w4.heap.size v0 ((s.params.take k).map (kAP b)))∧Hid (Bx wr w2.heap.size 29 [v0,c1,c2,c3,.slice none 0 0])∧Below w2.heap.size w2 wr∧Hid (∀ q,q<w4.heap.size→q≠w2.heap.size→wr.heap[q]? =w4.heap[q]?)∧w4.heap.size≤wr.heap.size∧Hid (k≤n→c1= .string ⟨#[]⟩∧c2= .string ⟨#[]⟩∧c3= .slice none 0 0)∧Hid (k=n+1→∃ a5 c5,c1= .string (kAP b s.result).elem∧c2= .string (kAP b s.result).shape.row∧c3= .slice a5 (kAP b s.result).shape.dims.length c5∧Sl RLin (fun q=>X q∨w4.heap.size≤q) wr a5 (kAP b s.result).shape.dims.length c5 (kAP b s.result).shape.dims)) (fun i _=>n+1 - (intOf i).toNat)
 case atStart=>exact ⟨0,_,_,_,_,Nat.zero_le _,rfl,hJ (fun i hi=>absurd hi (by omega)),hJ (Own.nil _ _ _ _ _),HG4,HB4.out,hJ (fun _ _ _=>rfl),zR _,hJ (fun _=>⟨rfl,rfl,rfl⟩),hJ (fun q=>absurd q (by omega))⟩
 case round =>
  obtain ⟨k,v0,c1,c2,c3,hk,rfl,HT,HO,HG,hB,HKeep,hsz,HZ,HE⟩:=hrel;have HBw:=hJ (HW.out.trans (hB.mono HW.out.size));have HRr:Hid (Bx wr _ _ _):=hJ ((HKeep.out _ HR4.out.lt (by omega)).trans HR4.out);have HAr:Hid (Bx wr _ _ _):=hJ ((HKeep.out _ HA4.out.lt (by omega)).trans HA4.out);have hlG:=HG.out.lt;have hlA3:=HAr.out.lt;have y0:=HAr.out.cell 0 _ rfl;have HLr:=hJ (HLs.out.frame (w':=wr) (fun q hq hlt=>HKeep.out q hlt (by rcases hq with hq | hq;exact (by have:=hq.2;omega);exact (by have hq:w3.heap.size≤q:=hq;omega))));by_cases hlt:k<n+1
  · obtain ⟨q1,q2,q3⟩:=HZ.out (by omega)
    subst q1 q2 q3;clear HE HZ;obtain ⟨a0,m0,c0,rfl⟩:=HO.out.shape;obtain ⟨b1,off,rfl,hbW,_⟩:=HLr.out.form k hlt;obtain ⟨t,hr,⟨at_,ct,rfl,hts⟩,e0,e1,e2⟩:=HLr.out.typ k hlt;have HK:Hid (k<n+1):=hJ hlt;have HBad:=hJ (fun q=>HBadA.out k hlt q);have HUp:=hJ (fun q=>upto HT.out (p:=fun j=>kA0 b ((allT s).getD j default).shape=true) q);have HXv:=hJ (HAV.out k hlt);have HNx:Hid (k<n→(allT s).getD k default=s.params.getD k default):=hJ (fun q=>HA1.out k q);have HLx:Hid (k=n→(allT s).getD k default=s.result):=hJ (fun q=>by rw [q];exact HA2'.out);have hkl:((s.params.take k).map (kAP b)).length=k:=by rw [List.length_map,zN,HN.out];omega
    have HNext:Hid (k<n→(s.params.take (k+1)).map (kAP b)=(s.params.take k).map (kAP b)++[kAP b (s.params.getD k default)]):=hJ (fun q=>by rw [kAU (by rw [HN.out];exact q),List.map_append];rfl);generalize (allT s).getD k default=x at *;have HCx:=hJ (HCT.out _ _ HBw.out x _ hr HXv.out);clear hr hts;cases hok:kA0 b x.shape with
    | false =>
      have HBd:=hJ (HBad.out hok);rw [(kB2 hok).1,(kB2 hok).2.1] at HCx;clear hok
      go_wp2_with fail
      refine HCx.out.mono ?_;rintro e w5 ⟨⟨_,rfl,hr5⟩,hb5⟩;obtain ⟨_,rfl,a5,c5,rfl,hs5⟩:=hr5;have HR5:=hJ (HRr.out.below hb5 HRr.out.lt);obtain ⟨w7,hfold7⟩:∃ q,w5.alloc (.cells #[.string kB4.elem,.string kB4.shape.row,.slice a5 kB4.shape.dims.length c5] 27)=q:=⟨_,rfl⟩
      have HRw:=hJ (HR5.out.alloc (.cells #[.string kB4.elem,.string kB4.shape.row,.slice a5 kB4.shape.dims.length c5] 27));rw [hfold7] at HRw;have HWw:Hid (Below w.heap.size w w7):=hJ (by rw [← hfold7];exact (HBw.out.trans (hb5.mono HBw.out.size)).alloc (by have:=hb5.size;have:=HBw.out.size;omega) _);have v0:=HRw.out.cell 0 _ rfl;have v1:=HRw.out.cell 1 _ rfl;have v2:=HRw.out.cell 2 _ rfl;have v3:=HRw.out.cell 3 _ rfl;have v4:=HRw.out.cell 4 _ rfl;have u0:=HRw.out.fz 0;have u1:=HRw.out.fz 1;have u2:=HRw.out.fz 2;have u3:=HRw.out.fz 3;have u4:=HRw.out.fz 4;have hlr:=HRw.out.lt;have HX60:=hJ (((((HRw.out.set 0 (.slice none 0 0)).set 1 (.string ⟨#[]⟩)).set 2 (.string ⟨#[]⟩)).set 3 (.slice none 0 0)).set 4 (.slice none 0 0));have s0:=HX60.out.cell 0 _ rfl;have s1:=HX60.out.cell 1 _ rfl;have s2:=HX60.out.cell 2 _ rfl;have s3:=HX60.out.cell 3 _ rfl;have s4:=HX60.out.cell 4 _ rfl
      go_wp2_with fail
      refine bodyPost_ret (v:=.tuple #[.agg #[.slice none 0 0,.string ⟨#[]⟩,.string ⟨#[]⟩,.slice none 0 0,.slice none 0 0],.int .i64 3]) (by simp [results,results31,go_sem,s0,s1,s2,s3,s4,hlr]) rfl ?_;refine ⟨⟨[.slice none 0 0,.string ⟨#[]⟩,.string ⟨#[]⟩,.slice none 0 0,.slice none 0 0],by rw [HBd.out.2],by rw [HBd.out.1];exact kFD.no ..⟩,?_⟩
      repeat (first | exact HWw.out | refine Below.setCell ?_ (by show _≤w.heap.size+1;omega) _)
    | true =>
      have HUp2:=hJ (HUp.out hok);rw [(kDR hok).1,(kDR hok).2.1] at HCx;clear hok HBad HUp
      go_wp2_with fail
      refine HCx.out.mono ?_;rintro e w5 ⟨⟨_,rfl,hr5⟩,hb5⟩;obtain ⟨_,rfl,a5,c5,rfl,hs5⟩:=hr5;obtain ⟨y,hy⟩:∃ y,y=kAP b x:=⟨_,rfl⟩
      have HY:=hJ hy;rw [← hy] at hs5 ⊢;clear hy;obtain ⟨w7,hfold7⟩:∃ q,w5.alloc (.cells #[.string y.elem,.string y.shape.row,.slice a5 y.shape.dims.length c5] 27)=q:=⟨_,rfl⟩
      have HB7:Hid (Below wr.heap.size wr w7):=hJ (by rw [← hfold7];exact hb5.alloc hb5.size _);have HP7:Hid (Bx w7 w5.heap.size 27 [.string y.elem,.string y.shape.row,.slice a5 y.shape.dims.length c5]):=hJ (by rw [← hfold7];exact Bx.fresh _ _ _);have r0:=HP7.out.cell 0 _ rfl;have r1:=HP7.out.cell 1 _ rfl;have r2:=HP7.out.cell 2 _ rfl;have HG7:=hJ (HG.out.below HB7.out hlG);have HA7:=hJ (HAr.out.below HB7.out HAr.out.lt);have z0:=HA7.out.cell 0 _ rfl;have hs7:=HB7.out.size;have HS7:=hJ ((hs5.below ((zB _ _).alloc (zR _) (.cells #[.string y.elem,.string y.shape.row,.slice a5 y.shape.dims.length c5] 27))));rw [hfold7] at HS7;clear hs5;by_cases hkn:k<n
      · have g0:=HG7.out.cell 0 _ rfl
        have hki:(k:Int)<(n:Int):=by omega
        have HRY:Hid (RTyp.rd (fun q=>(X q∨w4.heap.size≤q)∧(Value.slice a0 m0 c0).ownBlock≠some q) w7 [.string y.elem,.string y.shape.row,.slice a5 y.shape.dims.length c5] y):=hJ ⟨_,rfl,a5,c5,rfl,HS7.out.mono (fun q hq _=>⟨hq.imp id (fun hq=>by omega),fun e=>by have h8:=(HO.out.block e).2;have h9:=HO.out.base_le q e;rcases hq with hq | hq;have:=HXw.out q hq;omega;omega⟩)⟩;have HNext2:Hid ((s.params.take (k+1)).map (kAP b)=(s.params.take k).map (kAP b)++[y]):=hJ (by rw [HNext.out hkn,← HNx.out hkn,HY.out]);generalize (s.params.take k).map (kAP b)=lk at *
        go_wp2_with (at_builtin;refine kA1 kG7 rfl _ _ rfl w4.heap.size _ _ rfl ((HO.out.below HB7.out).alloc _) _ y [.string y.elem,.string y.shape.row,.slice a5 y.shape.dims.length c5] rfl (RTyp.below HRY.out ((zB _ _).alloc (zR _) _)) (kA3 27 (by (simp only [kAJ,kAF,Array.getElem?_push,Array.size_push];simp))) (by omega) (by unfold maxLen;omega) (by simp;omega) ?_;intro v9 w9 hown9 hb9 hk9;obtain ⟨a9,m9,c9,rfl⟩:=hown9.shape;have HG9:=hJ ((HG7.out.alloc _).kp hk9 (HO.out.ne (by omega)));have g9:=HG9.out.cell 0 _ rfl;have u9:=HG9.out.fz 0)
        go_roundw
        case rel=>exact ⟨k+1,_,_,_,_,by omega,by go_num,HUp2,hJ (by rw [HNext2.out];exact hown9.set _ (fun q hq=>(HNe.out q hq).1) (by show w2.heap.size<_;omega)),hJ (HG9.out.set 0 _),((hB.trans (HB7.out.mono hB.size)).trans (((zB _ _).alloc (by omega) _).trans (hb9.mono (by omega)))).setCell (zR _) _,hJ (fun q hq hne=>(kAA (fun e=>hne e.symm)).trans ((((zB _ _).alloc (B:=w4.heap.size) (by omega) _).trans hb9).block q hq |>.trans ((HB7.out.block q (by omega)).trans (HKeep.out q hq hne)))),by have:=hb9.size;simp at this ⊢;omega,hJ (fun _=>⟨rfl,rfl,rfl⟩),hJ (fun q=>absurd q (by omega))⟩
        case measure=>simp [intOf];omega
      · have hki:¬ (k:Int)<(n:Int):=by omega
        have g1:=HG7.out.cell 1 _ rfl;have g2:=HG7.out.cell 2 _ rfl;have g3:=HG7.out.cell 3 _ rfl;have u1:=HG7.out.fz 1;have u2:=HG7.out.fz 2;have u3:=HG7.out.fz 3;obtain rfl:k=n:=by omega
        have HYr:Hid (y=kAP b s.result):=hJ (by rw [HY.out,HLx.out rfl]);have HTk:Hid (s.params.take (k+1)=s.params.take k):=hJ (by rw [zT (by rw [HN.out];omega),zT (by rw [HN.out];omega)])
        go_wp2_with fail
        go_roundw
        case rel =>
         refine ⟨k+1,_,_,_,_,by omega,by go_num,HUp2,hJ (by rw [HTk.out];exact (((HO.out.below HB7.out).set _ (fun q hq=>(HNe.out q hq).1) (by show w2.heap.size<_;omega)).set _ (fun q hq=>(HNe.out q hq).1) (by show w2.heap.size<_;omega)).set _ (fun q hq=>(HNe.out q hq).1) (by show w2.heap.size<_;omega)),hJ (((HG7.out.set 1 _).set 2 _).set 3 _),(((hB.trans (HB7.out.mono hB.size)).setCell (zR _) _).setCell (zR _) _).setCell (zR _) _,hJ (fun q hq hne=>(kAA (fun e=>hne e.symm)).trans ((kAA (fun e=>hne e.symm)).trans ((kAA (fun e=>hne e.symm)).trans ((HB7.out.block q (by omega)).trans (HKeep.out q hq hne))))),by simp <;> omega,hJ (fun q=>absurd q (by omega)),hJ (fun _=>?_)⟩;refine ⟨a5,c5,by rw [HYr.out],by rw [HYr.out],by rw [HYr.out],?_⟩;rw [← HYr.out];have hne:∀ q,(X q∨w4.heap.size≤q)→w2.heap.size≠q:=fun q hq=>(HNe.out q hq).2
         exact ((((HS7.out.mono (S':=fun q=>X q∨w4.heap.size≤q) (fun q hq _=>hq.imp id (fun hq=>by omega))).set hne).set hne).set hne)
        case measure=>simp [intOf] <;> omega
  · have hkn:k=n+1:=by omega
    obtain ⟨a5,c5,q1,q2,q3,hs5⟩:=HE.out hkn;have hki:¬ (k:Int)<(n:Int)+1:=by omega
    subst q1 q2 q3;have HokR:Hid (kA0 b s.result.shape=true):=hJ (by have:=HT.out n (by omega);rwa [HA2'.out] at this);have HT0:Hid (∀ j,j<n→kA0 b (s.params.getD j default).shape=true):=hJ (fun j hj=>by have:=HT.out j (by omega);rwa [HA1.out j hj] at this);have HAll:Hid ((s.params.take k).map (kAP b)=s.params.map (kAP b)):=hJ (by rw [zT (by rw [HN.out];omega)]);have HO7:=hJ (HAll.out ▸ (HO.out.lower (base':=w2.heap.size+1) (by omega)).mono (S':=fun q=>X q∨w2.heap.size<q) (fun q hq _=>hq.imp id (fun hq=>by omega)));obtain ⟨y,hy⟩:∃ y,y=kAP b s.result:=⟨_,rfl⟩
    have HY:=hJ hy;rw [← hy] at hs5 HG;clear hy;have HS7:=hJ (hs5.mono (S':=fun q=>X q∨w2.heap.size<q) (fun q hq _=>hq.imp id (fun hq=>by omega)));obtain ⟨a0,m0,c0,rfl⟩:=HO7.out.shape;clear HT HE HZ HO HAll hs5 HLr;have HT:=HT0;have HG7:=HG;have HB7:=hJ hB;have HR7:=HRr;have HA7:=HAr;have hl7:=hlG;clear HT0 HG hB HRr HAr hlG HKeep HR4 HA4 HG4 HLs HBw
    rename World=>w7
    go_wp2_with fail
    have HMore:Hid (∀ W:World,W.heap[w.heap.size]? =w7.heap[w.heap.size]? →W.cell? ⟨w.heap.size,4,none⟩=some (.slice aq m cq)):=hJ (fun W q=>Bx.cell (w:=W) (q.trans HA7.out) 4 _ rfl)
    go_loopw [11] (fun i wt=>∃ (k:Nat) (v0:Value),k≤m∧i= .int .i64 k∧Hid (∀ j,j<k→kAB (kAD b (s.wh.getD j default))=true)∧Hid (Own RLin 40 (fun q=>w7.heap.size≤q) wt w7.heap.size v0 ((s.wh.take k).map (kAD b)))∧Hid (Bx wt w2.heap.size 29 [.slice a0 m0 c0,.string y.elem,.string y.shape.row,.slice a5 y.shape.dims.length c5,v0])∧Below w2.heap.size w2 wt∧Hid (∀ q,q<w7.heap.size→q≠w2.heap.size→wt.heap[q]? =w7.heap[q]?)∧w7.heap.size≤wt.heap.size) (fun i _=>m - (intOf i).toNat)
    case atStart=>exact ⟨0,_,Nat.zero_le _,rfl,hJ (fun i hi=>absurd hi (by omega)),hJ (Own.nil _ _ _ _ _),HG7,HB7.out,hJ (fun _ _ _=>rfl),zR _⟩
    case round =>
     clear HG7;obtain ⟨k,v0,hk,rfl,HTw,HOw,HG,hB,HKeep,hsz⟩:=hrel;have HBw:=hJ (HW.out.trans (hB.mono HW.out.size));have HRr:Hid (Bx wr _ _ _):=hJ ((HKeep.out _ HR7.out.lt (by omega)).trans HR7.out);have hlG:=HG.out.lt;have hlR:=HRr.out.lt;obtain ⟨a6,m6,c6,rfl⟩:=HOw.out.shape;have y4:=HMore.out wr (HKeep.out _ (by omega) (by omega));by_cases hlt:k<m
     · obtain ⟨b1,off,rfl,hbW,_⟩:=HQs.out.form k hlt
       obtain ⟨t,hr,⟨at_,ct,rfl,hts⟩,e0,e1⟩:=(HQs.out.below HBw.out).lin k hlt;have HK:Hid (k<s.wh.length):=hJ (by rw [HM.out];exact hlt);have HNext:Hid ((s.wh.take (k+1)).map (kAD b)=(s.wh.take k).map (kAD b)++[kAD b (s.wh.getD k default)]):=hJ (by rw [kAU HK.out,List.map_append];rfl);have hkl:((s.wh.take k).map (kAD b)).length=k:=by rw [List.length_map,zN,HM.out];omega
       have HBad:=hJ (fun q=>sch_badW (b:=b) HK.out q);have HUp:=hJ (fun q=>upto HTw.out (p:=fun j=>kAB (kAD b (s.wh.getD j default))=true) q);have HXv:=hJ (HV.out.2.2.2.2 _ (kAM HK.out));generalize s.wh.getD k default=x at *;generalize (s.wh.take k).map (kAD b)=lk at *;have HCx:=hJ (HCL.out _ HBw.out x _ hr HXv.out);clear hr hts;cases hvx:kAB (kAD b x) with
       | false =>
         have HBd:=hJ (HBad.out hvx);rw [(lim_bad hvx).2] at HCx;clear hvx;generalize limL (kAD b x)=z at *
         go_wp2_with fail
         refine HCx.out.mono ?_;rintro e w5 ⟨⟨_,rfl,hr5⟩,hb5⟩;obtain ⟨_,rfl,a8,c8,rfl,hs5⟩:=hr5;have HR5:=hJ (HRr.out.below hb5 HRr.out.lt);obtain ⟨w8,hfold8⟩:∃ q,w5.alloc (.cells #[.int .i64 z.const,.slice a8 z.terms.length c8] 40)=q:=⟨_,rfl⟩
         have HRw:=hJ (HR5.out.alloc (.cells #[.int .i64 z.const,.slice a8 z.terms.length c8] 40));rw [hfold8] at HRw;have HWw:Hid (Below w.heap.size w w8):=hJ (by rw [← hfold8];exact (HBw.out.trans (hb5.mono HBw.out.size)).alloc (by have:=hb5.size;have:=HBw.out.size;omega) _);have v0:=HRw.out.cell 0 _ rfl;have v1:=HRw.out.cell 1 _ rfl;have v2:=HRw.out.cell 2 _ rfl;have v3:=HRw.out.cell 3 _ rfl;have v4:=HRw.out.cell 4 _ rfl;have u0:=HRw.out.fz 0;have u1:=HRw.out.fz 1;have u2:=HRw.out.fz 2;have u3:=HRw.out.fz 3;have u4:=HRw.out.fz 4;have hlr:=HRw.out.lt;have HX60:=hJ (((((HRw.out.set 0 (.slice none 0 0)).set 1 (.string ⟨#[]⟩)).set 2 (.string ⟨#[]⟩)).set 3 (.slice none 0 0)).set 4 (.slice none 0 0));have s0:=HX60.out.cell 0 _ rfl;have s1:=HX60.out.cell 1 _ rfl;have s2:=HX60.out.cell 2 _ rfl;have s3:=HX60.out.cell 3 _ rfl;have s4:=HX60.out.cell 4 _ rfl
         go_wp2_with fail
         refine bodyPost_ret (v:=.tuple #[.agg #[.slice none 0 0,.string ⟨#[]⟩,.string ⟨#[]⟩,.slice none 0 0,.slice none 0 0],.int .i64 3]) (by simp [results,results31,go_sem,s0,s1,s2,s3,s4,hlr]) rfl ?_;refine ⟨⟨[.slice none 0 0,.string ⟨#[]⟩,.string ⟨#[]⟩,.slice none 0 0,.slice none 0 0],by rw [HBd.out.2],by rw [HBd.out.1];exact kFD.no ..⟩,?_⟩
         repeat (first | exact HWw.out | refine Below.setCell ?_ (by show _≤w.heap.size+1;omega) _)
       | true =>
         have HUp2:=hJ (HUp.out hvx);clear HUp;rw [(kE1 hvx).1,(kE1 hvx).2] at HCx;clear hvx HBad
         go_wp2_with fail
         refine HCx.out.mono ?_;rintro e w5 ⟨⟨_,rfl,hr5⟩,hb5⟩;obtain ⟨_,rfl,a8,c8,rfl,hs5⟩:=hr5;generalize kAD b x=z at *;obtain ⟨w8,hfold8⟩:∃ q,w5.alloc (.cells #[.int .i64 z.const,.slice a8 z.terms.length c8] 40)=q:=⟨_,rfl⟩
         have HB8:Hid (Below wr.heap.size wr w8):=hJ (by rw [← hfold8];exact hb5.alloc hb5.size _);have HP8:Hid (Bx w8 w5.heap.size 40 [.int .i64 z.const,.slice a8 z.terms.length c8]):=hJ (by rw [← hfold8];exact Bx.fresh _ _ _);have r0:=HP8.out.cell 0 _ rfl;have r1:=HP8.out.cell 1 _ rfl;have HS8:Hid (Sl kA7 (fun q=>wr.heap.size≤q) w8 a8 z.terms.length c8 z.terms):=hJ (hfold8 ▸ (hs5.below ((zB _ _).alloc (zR _) (.cells #[.int .i64 z.const,.slice a8 z.terms.length c8] 40))));clear hs5 hb5;have HG8:=hJ (HG.out.below HB8.out hlG);have g4:=HG8.out.cell 4 _ rfl;have hs8:=HB8.out.size;have HRY:Hid (RLin.rd (fun q=>w7.heap.size≤q∧(Value.slice a6 m6 c6).ownBlock≠some q) w8 [.int .i64 z.const,.slice a8 z.terms.length c8] z):=hJ ⟨_,rfl,a8,c8,rfl,HS8.out.mono (fun q hq _=>⟨by have:wr.heap.size≤q:=hq;omega,fun e=>by have h8:=(HOw.out.block e).2;have:wr.heap.size≤q:=hq;omega⟩)⟩;clear HS8
         go_wp2_with (at_builtin;refine kA1 kA2 rfl _ _ rfl w7.heap.size _ _ rfl ((HOw.out.below HB8.out).alloc _) _ z [.int .i64 z.const,.slice a8 z.terms.length c8] rfl (RLin.below HRY.out ((zB _ _).alloc (zR _) _)) (kA3 40 (by (simp only [kAJ,kAF,Array.getElem?_push,Array.size_push];simp))) (by omega) (by unfold maxLen;omega) (by simp;omega) ?_;intro v9 w9 hown9 hb9 hk9;obtain ⟨a9,m9,c9,rfl⟩:=hown9.shape;have HG9:=hJ ((HG8.out.alloc _).kp hk9 (HOw.out.ne hl7));have g9:=HG9.out.cell 4 _ rfl;have u9:=HG9.out.fz 4)
         go_roundw
         case rel=>exact ⟨k+1,_,by omega,by go_num,HUp2,hJ (by rw [HNext.out];exact hown9.set _ (fun q hq=>Nat.ne_of_gt (Nat.lt_of_lt_of_le hl7 hq)) hl7),hJ (HG9.out.set 4 _),((hB.trans (HB8.out.mono hB.size)).trans (((zB _ _).alloc (by omega) _).trans (hb9.mono (Nat.le_of_lt hl7)))).setCell (zR _) _,hJ (fun q hq hne=>(kAA (fun e=>hne e.symm)).trans ((((zB _ _).alloc (B:=w7.heap.size) (by omega) _).trans hb9).block q hq |>.trans ((HB8.out.block q (by omega)).trans (HKeep.out q hq hne)))),by have:=hb9.size;simp at this ⊢;omega⟩
         case measure=>simp [intOf];omega
     · obtain rfl:k=m:=by omega
       have HAll:Hid ((s.wh.take k).map (kAD b)=s.wh.map (kAD b)):=hJ (by rw [zT (by rw [HM.out];exact zR _)]);rw [HAll.out] at HOw;obtain ⟨z1,z2⟩:=HGood.out HT.out HokR.out HTw.out;have HZ1:=hJ z1;have HZ2:=hJ z2;clear z1 z2;have g0:=HG.out.cell 0 _ rfl;have g1:=HG.out.cell 1 _ rfl;have g2:=HG.out.cell 2 _ rfl;have g3:=HG.out.cell 3 _ rfl;have g4:=HG.out.cell 4 _ rfl;have v0:=HRr.out.cell 0 _ rfl;have v1:=HRr.out.cell 1 _ rfl;have v2:=HRr.out.cell 2 _ rfl;have v3:=HRr.out.cell 3 _ rfl;have v4:=HRr.out.cell 4 _ rfl;have u0:=HRr.out.fz 0;have u1:=HRr.out.fz 1;have u2:=HRr.out.fz 2;have u3:=HRr.out.fz 3;have u4:=HRr.out.fz 4;have hlr:=HRr.out.lt;have HX60:=hJ (((((HRr.out.set 0 (.slice a0 m0 c0)).set 1 (.string y.elem)).set 2 (.string y.shape.row)).set 3 (.slice a5 y.shape.dims.length c5)).set 4 (.slice a6 m6 c6));have s0:=HX60.out.cell 0 _ rfl;have s1:=HX60.out.cell 1 _ rfl;have s2:=HX60.out.cell 2 _ rfl;have s3:=HX60.out.cell 3 _ rfl;have s4:=HX60.out.cell 4 _ rfl
       go_wp2_with fail
       refine bodyPost_ret (v:=.tuple #[.agg #[.slice a0 m0 c0,.string y.elem,.string y.shape.row,.slice a5 y.shape.dims.length c5,.slice a6 m6 c6],.int .i64 0]) (by simp [results,results31,go_sem,s0,s1,s2,s3,s4,hlr]) rfl ?_;refine ⟨⟨[.slice a0 m0 c0,.string y.elem,.string y.shape.row,.slice a5 y.shape.dims.length c5,.slice a6 m6 c6],by rw [HZ2.out],?_⟩,?_⟩
       · rw [HZ1.out]
         skip
         have hXq:∀ q,(X q∨w2.heap.size<q)→w2.heap.size≠q∧w.heap.size+1≠q∧(X q∨w.heap.size≤q):=fun q hq=>by
          rcases hq with r | r
          · have:=HXw.out q r;exact ⟨by omega,by omega,.inl r⟩
          · exact ⟨by omega,by omega,.inr (by omega)⟩
         have q2:=(HS7.out.mono (S':=fun q=>(X q∨w2.heap.size<q)∧q<w7.heap.size) (fun q hq hlt=>⟨hq,hlt⟩)).frame (w':=wr) (fun q hq hlt=>HKeep.out q hlt (Ne.symm (hXq q hq.1).1));obtain ⟨a10,c10,e10,q1⟩:=HO7.out.sl;have q1:=(q1.mono (S':=fun q=>(X q∨w2.heap.size<q)∧q<w7.heap.size) (fun q hq hlt=>⟨hq.elim id .inr,hlt⟩)).frame (w':=wr) (fun q hq hlt=>HKeep.out q hlt (Ne.symm (hXq q hq.1).1));rw [Value.slice.injEq] at e10;obtain ⟨rfl,rfl,rfl⟩:=e10
         have hR2:∀ {α :Type} {R:Rep α} {a:Option Addr} {n c:Nat} {l:List α},Sl R (fun q=>(X q∨w2.heap.size<q)∧q<w7.heap.size) wr a n c l→Sl R (fun k=>(X k∨w.heap.size≤k)∧k<w7.heap.size) (((((wr.setCell ⟨w.heap.size+1,0,none⟩ (.slice a0 (s.params.map (kAP b)).length c0)).setCell ⟨w.heap.size+1,1,none⟩ (.string y.elem)).setCell ⟨w.heap.size+1,2,none⟩ (.string y.shape.row)).setCell ⟨w.heap.size+1,3,none⟩ (.slice a5 y.shape.dims.length c5)).setCell ⟨w.heap.size+1,4,none⟩ (.slice a6 m6 c6)) a n c l:=by
          intro α R a n c l hs;have hne:∀ q,((X q∨w2.heap.size<q)∧q<w7.heap.size)→w.heap.size+1≠q:=fun q hq=>(hXq q hq.1).2.1
          exact (((((hs.set hne).set hne).set hne).set hne).set hne).mono (fun q hq _=>⟨(hXq q hq.1).2.2,hq.2⟩)
         have hS3:∀ q,w7.heap.size≤q→q≠w.heap.size+1:=fun q hq=>by omega
         have hl3:w.heap.size+1<w7.heap.size:=by omega
         refine ⟨w7.heap.size,_,_,_,by omega,by rw [HY.out];rfl,⟨a0,c0,rfl,hR2 q1⟩,⟨a5,c5,by first | rfl | (rw [HY.out];rfl),?_⟩,((((HOw.out.set _ hS3 hl3).set _ hS3 hl3).set _ hS3 hl3).set _ hS3 hl3).set _ hS3 hl3⟩;have:=hR2 q2
         show Sl RLin _ _ a5 (kAP b s.result).shape.dims.length c5 (kAP b s.result).shape.dims
         rw [← HY.out];exact this
       · repeat (first | exact HBw.out | refine Below.setCell ?_ (by show _≤w.heap.size+1;omega) _)
theorem kGD (x:Lin):∀ (k:Nat) (out:List Lin),k≤out.length→(∀ j,j<k→kAX (out.getD j default) x<0)→(k=out.length∨0<kAX (out.getD k default) x)→insU kAX x out=out.take k++x :: out.drop k
 | 0,[],_,_,_=>rfl
 | 0,y :: out,_,_,h=>by
   have h:0<kAX y x:=by rcases h with h | h;simp at h;simpa using h
   unfold insU;rw [if_neg (by omega),if_neg (by omega)];rfl
 | k+1,[],h,_,_=>by simp at h
 | k+1,y :: out,hk,h,hs=>by
   have h0:=h 0 (by omega);have h0:kAX y x<0:=by simpa using h0
   unfold insU;rw [if_pos h0,kGD x k out (by simpa using hk) (fun j hj=>by have:=h (j+1) (by omega);simpa using this) (by rcases hs with hs | hs;exact .inl (by simpa using hs);exact .inr (by simpa using hs))];rfl
theorem insU_same (x:Lin):∀ (k:Nat) (out:List Lin),k<out.length→(∀ j,j<k→kAX (out.getD j default) x<0)→kAX (out.getD k default) x=0→insU kAX x out=out
 | 0,y :: out,_,_,h=>by
   have h:kAX y x=0:=by simpa using h
   unfold insU;rw [if_neg (by omega),if_pos h]
 | k+1,[],h,_,_=>by simp at h
 | 0,[],h,_,_=>by simp at h
 | k+1,y :: out,hk,h,hs=>by
   have h0:=h 0 (by omega);have h0:kAX y x<0:=by simpa using h0
   unfold insU;rw [if_pos h0,insU_same x k out (by simpa using hk) (fun j hj=>by have:=h (j+1) (by omega);simpa using this) (by simpa using hs)]
theorem tidy_next {l:List Lin} {i:Nat} (h:i<l.length):tidy (l.take (i+1))=if kGO (l.getD i default) then tidy (l.take i) else insU kAX (l.getD i default) (tidy (l.take i)):=by
 unfold tidy tidyG;rw [kAU h,List.foldl_append];rfl
theorem kHH (W:World) (g og m co k:Nat) (hk:k≤co):(Instr.slice 23 (.slice (some ⟨g,og,none⟩) m co) none (some (.int .i64 k)) (some (.int .i64 k))).run Tryz.prog W= .ok (.slice (some ⟨g,og,none⟩) k k) W:=by
 have h1:(Instr.sliceBounds true m co none (some (.int .i64 k)) (some (.int .i64 k))).run Tryz.prog W= .ok (0,k,k) W:=by
  simp [Instr.sliceBounds,Instr.sliceBound,asIntOf,hk]
 obtain ⟨i0,z0,hi,hz,hs,hb,hzs⟩:=kA2.parts;simp only [Instr.slice,run_underlying underlying23,Sem.run_bind,Result.andThen_ok,h1,sizeOf,typeInfo];simp [hi,add_mk]
theorem run_slice3n (W:World):(Instr.slice 23 (.slice none 0 0) none (some (.int .i64 0)) (some (.int .i64 0))).run Tryz.prog W= .ok (.slice none 0 0) W:=by
 have h1:(Instr.sliceBounds true 0 0 none (some (.int .i64 0)) (some (.int .i64 0))).run Tryz.prog W= .ok (0,0,0) W:=by
  simp [Instr.sliceBounds,Instr.sliceBound,asIntOf]
 obtain ⟨i0,z0,hi,hz,hs,hb,hzs⟩:=kA2.parts;simp only [Instr.slice,run_underlying underlying23,Sem.run_bind,Result.andThen_ok,h1,sizeOf,typeInfo];simp [hi]
theorem ref12_Tidy {S:Blk} (l:List Lin) (a:Option Addr) (n c:Nat) (w:World) (h:Sl RLin S w a n c l) (hn:n≤100) :
 Calls Tryz.prog 33 #[.slice a n c] w fun e w'=>(∃ v,e= .returned v∧Own RLin 40 (fun q=>S q∧q<w.heap.size) w' w.heap.size v (tidy l))∧Below w.heap.size w w':=by
 have HS:Hid (Sl RLin (fun q=>S q∧q<w.heap.size) w a n c l):=hJ (h.mono fun q hq hlt=>⟨hq,hlt⟩);have hsm:=h.small;have HN:=hJ h.len;clear h;go_enter func33,ntmps33
 go_wp2_with fail
 go_loopw [3,4] (fun v iv wr=>∃ (i:Nat) (v0:Value),i≤n∧iv= .int .i64 i∧v0=v∧Hid (Own RLin 40 (fun q=>S q∧q<w.heap.size) wr w.heap.size v (tidy (l.take i)))∧Hid ((tidy (l.take i)).length=0→v= .slice none 0 0)∧Below w.heap.size w wr) (fun _ iv _=>n - (intOf iv).toNat)
 case atStart=>exact ⟨0,_,Nat.zero_le _,rfl,rfl,hJ (Own.nil _ _ _ _ _),hJ (fun _=>rfl),zB _ _⟩
 case round =>
  obtain ⟨i,v0,hi,rfl,rfl,HO,HZ,hB⟩:=hrel;have hsz:=hB.size;by_cases hlt:i<n
  · obtain ⟨b,off,rfl,hbW,_⟩:=HS.out.form i hlt
    have hil:i<l.length:=by rw [HN.out];exact hlt
    obtain ⟨t,hr,⟨ax,cx,rfl,hts⟩,e0,e1⟩:=(HS.out.below hB).lin i hlt;have HNx:=hJ (tidy_next hil);have HTl:Hid ((tidy (l.take i)).length≤100):=hJ (by have:=tidy_len (l.take i);rw [zN] at this;omega);clear hil;generalize l.getD i default=x at *;have HX:=hJ hr;have HD:Hid (kGO x=(x.terms.length==0 && decide (0≤x.const))):=hJ rfl;have hxs:=hts.small;clear hr hts;generalize tidy (l.take i)=out at *
    obtain ⟨ao,m,co,hvs,hso⟩:∃ ao m co,v0= .slice ao m co∧Sl RLin (fun q=>(S q∧q<w.heap.size)∨w.heap.size≤q) wr ao m co out∧m=out.length∧Els RLin (fun q=>S q∧q<w.heap.size) wr ao m co out:=by
     obtain ⟨ao,co,e,hs⟩:=HO.out.sl;obtain ⟨_,_,e2,hs2⟩:=HO.out.els;rw [e] at e2;rw [Value.slice.injEq] at e2;obtain ⟨rfl,-,rfl⟩:=e2;exact ⟨ao,_,co,e,hs,rfl,hs2.mono (fun k hk _=>hk.1)⟩
    subst hvs;have HOs:=hJ hso.1;have HMl:=hJ hso.2.1;have HEl:=hJ hso.2.2;clear hso;have hm:m≤100:=by rw [HMl.out];exact HTl.out
    by_cases h0:x.terms.length=0
    · by_cases hc:0≤x.const
      · have HF:Hid (tidy (l.take (i+1))=out):=hJ (by rw [HNx.out,if_pos (by rw [HD.out,h0,decide_eq_true hc];rfl)])
        have hl0:((x.terms.length:Int)==0)=true:=by rw [h0];rfl
        go_wp2_with fail
        go_roundw
        case rel=>exact ⟨i+1,_,by omega,by go_num,rfl,hJ (by rw [HF.out];exact HO.out),hJ (by rw [HF.out];exact HZ.out),hB⟩
        case measure=>simp [intOf];omega
      · have HF:Hid (tidy (l.take (i+1))=insU kAX x out):=hJ (by rw [HNx.out,if_neg (by rw [HD.out,decide_eq_false hc];simp)])
        have hl0:((x.terms.length:Int)==0)=true:=by rw [h0];rfl
        clear HNx HD h0;generalize hwq:wr=wq at *;clear hwq
        go_wp2_with fail
        go_loopw [5] (fun kv wr=>∃ k:Nat,k≤m∧kv= .int .i64 k∧Hid (∀ j,j<k→kAX (out.getD j default) x<0)∧Below wq.heap.size wq wr) (fun kv _=>m - (intOf kv).toNat)
        case atStart=>exact ⟨0,Nat.zero_le _,rfl,hJ (fun j hj=>absurd hj (by omega)),zB _ _⟩
        case round =>
         obtain ⟨k,hk,rfl,HT,hBq⟩:=hrel;have x0:=kAE e0 _ hBq;have x1:=kAE e1 _ hBq;have HXq:=hJ (RLin.below HX.out hBq);have hzq:=hBq.size;have HOq:=hJ (HO.out.below hBq);have HEq:=hJ (HEl.out.below hBq);have HB2:=hJ (hB.trans (hBq.mono hsz));by_cases hkm:k<m
         · obtain ⟨g,og,rfl,hgW,_⟩:=HOs.out.form k hkm
           obtain ⟨t,hry,⟨ay,cy,rfl,hty⟩,c0,c1⟩:=(HOs.out.below hBq).lin k hkm;have HTn:=hJ (fun q=>upto HT.out (p:=fun j=>kAX (out.getD j default) x<0) q);have hkl:k<out.length:=by rw [← HMl.out];exact hkm
           have HSame:Hid (kAX (out.getD k default) x=0→insU kAX x out=out):=hJ (fun q=>insU_same x k out hkl HT.out q);have HKy:Hid (∀ q:0<kAX (out.getD k default) x,k=out.length∨0<kAX (out.getD k default) x):=hJ (fun q=>.inr q);have HC:=hJ (fun (t:Later wr)=>kF8 (RLin.below hry t.b) (RLin.below HXq.out t.b));have HQ:=hJ (fun (W:World) (hW:Below wr.heap.size wr W) (t:Later W)=>kF7 (RLin.below (RLin.below hry hW) t.b) (RLin.below (RLin.below HXq.out hW) t.b));have hEq:kCN (out.getD k default) x=(kAX (out.getD k default) x==0):=(eqLin_cmp _ _).symm;rw [hEq] at HQ;clear hry hty hkl hEq;obtain ⟨y,hy⟩:∃ y,out.getD k default=y:=⟨_,rfl⟩
           have HYe:=hJ hy;rw [hy] at HC HQ c0 c1 HSame HKy HTn;clear hy;obtain ⟨r,hr⟩:∃ r,kAX y x=r:=⟨_,rfl⟩
           have HRe:=hJ hr;rw [hr] at HC HQ HSame HKy HTn;clear hr;have hkmz:(k:Int)<(m:Int):=by omega
           have C0:=Later.cell c0;have C1:=Later.cell c1;have X0:=Later.cell x0;have X1:=Later.cell x1;by_cases hr:r<0
           · have HTn2:=hJ (HTn.out hr)
             clear HSame HKy HQ HTn
             go_wp2_with fail
             refine kAC (by kernel_rfl) (by kernel_rfl) ?_
             repeat (go_big_quiet_step (first | fail | exact Later.call (HC.out _)))
             refine wpQuiet_nil ?_;rintro _ ⟨t9,rfl⟩;have HBz:Hid (Below wr.heap.size wr t9.w):=hJ t9.b;generalize t9.w=wz at *
             go_wp2_with fail
             go_roundw
             case rel=>exact ⟨k+1,by omega,by go_num,HTn2,hBq.trans (HBz.out.mono hzq)⟩
             case measure=>simp [intOf];omega
           · have HKy2:=hJ (fun q:0<r=>HKy.out q)
             clear HTn HKy
             go_wp2_with fail
             refine kAC (by kernel_rfl) (by kernel_rfl) ?_
             repeat (go_big_quiet_step (first | fail | exact Later.call (HC.out _)))
             refine wpQuiet_nil ?_;rintro _ ⟨t9,rfl⟩;have HBz:Hid (Below wr.heap.size wr t9.w):=hJ t9.b;generalize t9.w=wz at *;have c0:=kAE c0 _ HBz.out;have c1:=kAE c1 _ HBz.out;have x0:=kAE x0 _ HBz.out;have x1:=kAE x1 _ HBz.out;have HQz:=hJ (HQ.out wz HBz.out);clear C0 C1 X0 X1 HC HQ;have C0:=Later.cell c0;have C1:=Later.cell c1;have X0:=Later.cell x0;have X1:=Later.cell x1;by_cases h00:r=0
             · have HFs:Hid (tidy (l.take (i+1))=out):=hJ (by rw [HF.out,HSame.out h00])
               rw [show (r==0)=true by simpa using h00] at HQz;have h00':r=0:=h00
               go_wp2_with fail
               refine kAC (by kernel_rfl) (by kernel_rfl) ?_
               repeat (go_big_quiet_step (first | fail | exact Later.call (HQz.out _)))
               refine wpQuiet_nil ?_;rintro _ ⟨t9,rfl⟩;have HBy:Hid (Below wz.heap.size wz t9.w):=hJ t9.b;generalize t9.w=wy at *
               go_wp2_with fail
               have HBf:=hJ (HBz.out.trans (HBy.out.mono HBz.out.size));go_roundw
               case rel=>exact ⟨i+1,_,by omega,by go_num,rfl,hJ (by rw [HFs.out];exact HOq.out.below HBf.out),hJ (by rw [HFs.out];exact HZ.out),HB2.out.trans (HBf.out.mono HB2.out.size)⟩
               case measure=>simp [intOf];omega
             · have hr0:0<r:=by omega
               rw [show (r==0)=false by simpa using h00] at HQz;have HWhy:Hid (k=out.length∨0<kAX (out.getD k default) x):=hJ (.inr (by rw [HYe.out,HRe.out];exact hr0))
               go_wp2_with fail
               refine kAC (by kernel_rfl) (by kernel_rfl) ?_
               repeat (go_big_quiet_step (first | fail | exact Later.call (HQz.out _)))
               refine wpQuiet_nil ?_;rintro _ ⟨t9,rfl⟩;have HBy:Hid (Below wz.heap.size wz t9.w):=hJ t9.b;generalize t9.w=wi at *;have HBf:=hJ (HBz.out.trans (HBy.out.mono HBz.out.size));have HXi:=hJ (RLin.below HXq.out HBf.out);have HEi:=hJ (HEq.out.below HBf.out);have x0:=kAE x0 _ HBy.out;have x1:=kAE x1 _ HBy.out;have HBi:=hJ (HB2.out.trans (HBf.out.mono HB2.out.size));have hzi:=HBi.out.size;have hkc:¬co=k:=by have:=HEi.out.cap;omega
               have HDr:=hJ (HEi.out.drop k (by omega));clear C0 C1 X0 X1 HQz HSame;have hs3:=fun W:World=>kHH W g og m co k (by have:=HEi.out.cap;omega)
               have HFk:Hid (tidy (l.take (i+1))=out.take k++x :: out.drop k):=hJ (by rw [HF.out];exact kGD x k out (by rw [← HMl.out];omega) HT.out HWhy.out)
               go_wp2_with fail
               go_region_held3 (fun w'=>w'.cell? ⟨b,off+i * 2,none⟩=some (.int .i64 x.const)∧w'.cell? ⟨b,off+i * 2+1,none⟩=some (.slice ax x.terms.length cx)) (first | exact ⟨x0,x1⟩ | go_keep) (first
                | (refine kGR kA2 rfl (.tmp 68) (.tmp 71) rfl wi.heap.size _ [x] (out.drop k) rfl (S:=fun q=>S q∧q<w.heap.size) ?a1 _ _ _ rfl ?a2 ?a3 ?a4 ?a5 ?_
                   case a1=>exact Own.at1 (cs:=[.int .i64 x.const,.slice ax x.terms.length cx]) (by (simp only [kAJ,kAF,Array.getElem?_push,Array.size_push];simp)) (by simp <;> omega) (RLin.below (RLin.mono HXi.out (fun q hq hlt=>⟨hq,by have:=hq.2;have:=HBi.out.size;simp;omega⟩)) (by go_grown))
                   case a2=>exact ((HDr.out.below (by go_grown)).mono (fun q hq hlt=>⟨hq,fun e=>by have h2:=hq.2;have h3:=HBi.out.size;have h4:wi.heap.size=q:=Option.some.inj e;omega⟩))
                   case a3=>simp <;> omega
                   case a4=>unfold maxLen;simp <;> omega
                   case a5=>simp <;> omega
                   intro v4 w4 hown4 hb4 hk4;obtain ⟨a4,c4,rfl,hs4⟩:=hown4.els;have hB4:Below wi.heap.size wi w4:=Below.trans (by go_grown) hb4;have x0:=kAE x0 _ hB4;have x1:=kAE x1 _ hB4)
                | (refine kDS kA2 rfl (.tmp 63) (.tmp 72) rfl _ k (out.take k) ([x]++out.drop k) rfl ((HEi.out.full k (by omega)).below (by first | exact hB4 | exact hB4.drew)) _ _ _ rfl ((hs4.mono (fun q hq _=>hq.1)).below (by first | exact zB _ _ | exact (zB _ _).drew)) (by simp) (by have:=HMl.out;simp;omega) (by have:=HMl.out;unfold maxLen;simp;omega) ?_
                   intro v5 w5 hown5 hb5;have hB5:Below wi.heap.size wi w5:=hB4.trans (hb5.mono (by have:=hB4.size;simp <;> omega));have x0:=kAE x0 _ hb5;have x1:=kAE x1 _ hb5;obtain ⟨a5,m5,c5,rfl⟩:=hown5.shape))
               all_goals go_wp2_with fail
               go_roundw
               case rel=>exact ⟨i+1,_,by omega,by go_num,rfl,hJ (by rw [HFk.out];exact hown5.lower (by have h1:=hB4.size;have h2:=HBi.out.size;omega)),hJ (fun h=>absurd h (by rw [HFk.out];simp)),HBi.out.trans (hB5.mono HBi.out.size)⟩
               case measure=>simp [intOf];omega
         · have HKE:Hid (k=m):=hJ (by omega)
           have HWhy:Hid (k=out.length∨0<kAX (out.getD k default) x):=hJ (.inl (by rw [HKE.out];exact HMl.out));have hkmz:¬ ((k:Int)<(m:Int)):=by omega
           go_wp2_with fail
           refine kAC (by kernel_rfl) (by kernel_rfl) ?_
           repeat (go_big_quiet_step (fail))
           refine wpQuiet_nil ?_;rintro _ ⟨t9,rfl⟩;have HBz0:Hid (Below wr.heap.size wr t9.w):=hJ t9.b;generalize t9.w=wz at *
           go_wp2_with fail
           refine kAC (by kernel_rfl) (by kernel_rfl) ?_
           repeat (go_big_quiet_step (fail))
           refine wpQuiet_nil ?_;rintro _ ⟨t9,rfl⟩;have HBz:Hid (Below wr.heap.size wr t9.w):=hJ (HBz0.out.trans (t9.b.mono HBz0.out.size));generalize t9.w=wi at *;have x0:=kAE x0 _ HBz.out;have x1:=kAE x1 _ HBz.out;have HBi:=hJ (HB2.out.trans (HBz.out.mono HB2.out.size));have HXi:=hJ (RLin.below HXq.out HBz.out);have HEi:=hJ (HEq.out.below HBz.out);have hzi:=HBi.out.size;clear HOq HX HEl HB2 HXq HEq;rcases ao with _ | ad
           · have hco:co=0:=HEi.out.nil rfl
             have hm0:m=0:=by have:=HEi.out.cap;omega
             have hk0:k=0:=by have:=HKE.out;omega
             clear HKE;subst hco;subst hm0;subst hk0;have HDr:Hid (Els RLin (fun q=>S q∧q<w.heap.size) wi none 0 0 (out.drop 0)):=hJ (by have h0:out=[]:=zL HEi.out.len;rw [h0];exact Els.none (by unfold maxLen;omega) (fun _=>rfl));have hs3:=fun W:World=>run_slice3n W
             have HFk:Hid (tidy (l.take (i+1))=out.take 0++x :: out.drop 0):=hJ (by rw [HF.out];exact kGD x 0 out (by rw [← HMl.out];omega) HT.out HWhy.out)
             go_wp2_with fail
             go_region_held3 (fun w'=>w'.cell? ⟨b,off+i * 2,none⟩=some (.int .i64 x.const)∧w'.cell? ⟨b,off+i * 2+1,none⟩=some (.slice ax x.terms.length cx)) (first | exact ⟨x0,x1⟩ | go_keep) (first
              | (refine kGR kA2 rfl (.tmp 68) (.tmp 71) rfl wi.heap.size _ [x] (out.drop 0) rfl (S:=fun q=>S q∧q<w.heap.size) ?a1 _ _ _ rfl ?a2 ?a3 ?a4 ?a5 ?_
                 case a1=>exact Own.at1 (cs:=[.int .i64 x.const,.slice ax x.terms.length cx]) (by (simp only [kAJ,kAF,Array.getElem?_push,Array.size_push];simp)) (by simp <;> omega) (RLin.below (RLin.mono HXi.out (fun q hq hlt=>⟨hq,by have:=hq.2;have:=HBi.out.size;simp;omega⟩)) (by go_grown))
                 case a2=>exact ((HDr.out.below (by go_grown)).mono (fun q hq hlt=>⟨hq,fun e=>by have h2:=hq.2;have h3:=HBi.out.size;have h4:wi.heap.size=q:=Option.some.inj e;omega⟩))
                 case a3=>simp <;> omega
                 case a4=>unfold maxLen;simp <;> omega
                 case a5=>simp <;> omega
                 intro v4 w4 hown4 hb4 hk4;obtain ⟨a4,c4,rfl,hs4⟩:=hown4.els;have hB4:Below wi.heap.size wi w4:=Below.trans (by go_grown) hb4;have x0:=kAE x0 _ hB4;have x1:=kAE x1 _ hB4)
              | (refine kDS kA2 rfl (.tmp 63) (.tmp 72) rfl _ 0 (out.take 0) ([x]++out.drop 0) rfl ((HEi.out.full 0 (by omega)).below (by first | exact hB4 | exact hB4.drew)) _ _ _ rfl ((hs4.mono (fun q hq _=>hq.1)).below (by first | exact zB _ _ | exact (zB _ _).drew)) (by simp) (by have:=HMl.out;simp;omega) (by have:=HMl.out;unfold maxLen;simp;omega) ?_
                 intro v5 w5 hown5 hb5;have hB5:Below wi.heap.size wi w5:=hB4.trans (hb5.mono (by have:=hB4.size;simp <;> omega));have x0:=kAE x0 _ hb5;have x1:=kAE x1 _ hb5;obtain ⟨a5,m5,c5,rfl⟩:=hown5.shape))
             all_goals go_wp2_with fail
             go_roundw
             case rel=>exact ⟨i+1,_,by omega,by go_num,rfl,hJ (by rw [HFk.out];exact hown5.lower (by have h1:=hB4.size;have h2:=HBi.out.size;omega)),hJ (fun h=>absurd h (by rw [HFk.out];simp)),HBi.out.trans (hB5.mono HBi.out.size)⟩
             case measure=>simp [intOf];omega
           · obtain ⟨g,og,rfl⟩:∃ g og,ad=⟨g,og,none⟩:=by
              rcases Nat.eq_zero_or_pos m with h | h
              · have:=HZ.out (by rw [← HMl.out];exact h)
                cases this
              · obtain ⟨g,og,e,_⟩:=HOs.out.form 0 h
                cases e;exact ⟨_,_,rfl⟩
             have HDa:Hid (∀ a,a≠none→Els RLin (fun q=>S q∧q<w.heap.size) wi a (m - k) (co - k) (out.drop k)):=hJ (fun a ha=>by have h1:=HEi.out.max;rw [HKE.out,Nat.sub_self,List.drop_of_length_le (by rw [HMl.out];omega)];exact Els.none (by omega) (fun e=>absurd e ha));have hs3:=fun W:World=>kHH W g og m co k (by have:=HEi.out.cap;omega)
             clear hkmz;by_cases hkc:co=k
             · subst hkc
               have HDr:Hid (Els RLin (fun q=>S q∧q<w.heap.size) wi (some ⟨g,og,none⟩) (m - co) 0 (out.drop co)):=hJ (by have h:=HDa.out (some ⟨g,og,none⟩) (by simp);rwa [Nat.sub_self] at h);have HFk:Hid (tidy (l.take (i+1))=out.take co++x :: out.drop co):=hJ (by rw [HF.out];exact kGD x co out (by rw [← HMl.out];omega) HT.out HWhy.out)
               go_wp2_with fail
               go_region_held3 (fun w'=>w'.cell? ⟨b,off+i * 2,none⟩=some (.int .i64 x.const)∧w'.cell? ⟨b,off+i * 2+1,none⟩=some (.slice ax x.terms.length cx)) (first | exact ⟨x0,x1⟩ | go_keep) (first
                | (refine kGR kA2 rfl (.tmp 68) (.tmp 71) rfl wi.heap.size _ [x] (out.drop co) rfl (S:=fun q=>S q∧q<w.heap.size) ?a1 _ _ _ rfl ?a2 ?a3 ?a4 ?a5 ?_
                   case a1=>exact Own.at1 (cs:=[.int .i64 x.const,.slice ax x.terms.length cx]) (by (simp only [kAJ,kAF,Array.getElem?_push,Array.size_push];simp)) (by simp <;> omega) (RLin.below (RLin.mono HXi.out (fun q hq hlt=>⟨hq,by have:=hq.2;have:=HBi.out.size;simp;omega⟩)) (by go_grown))
                   case a2=>exact ((HDr.out.below (by go_grown)).mono (fun q hq hlt=>⟨hq,fun e=>by have h2:=hq.2;have h3:=HBi.out.size;have h4:wi.heap.size=q:=Option.some.inj e;omega⟩))
                   case a3=>simp <;> omega
                   case a4=>unfold maxLen;simp <;> omega
                   case a5=>simp <;> omega
                   intro v4 w4 hown4 hb4 hk4;obtain ⟨a4,c4,rfl,hs4⟩:=hown4.els;have hB4:Below wi.heap.size wi w4:=Below.trans (by go_grown) hb4;have x0:=kAE x0 _ hB4;have x1:=kAE x1 _ hB4)
                | (refine kDS kA2 rfl (.tmp 63) (.tmp 72) rfl _ co (out.take co) ([x]++out.drop co) rfl ((HEi.out.full co (by omega)).below (by first | exact hB4 | exact hB4.drew)) _ _ _ rfl ((hs4.mono (fun q hq _=>hq.1)).below (by first | exact zB _ _ | exact (zB _ _).drew)) (by simp) (by have:=HMl.out;simp;omega) (by have:=HMl.out;unfold maxLen;simp;omega) ?_
                   intro v5 w5 hown5 hb5;have hB5:Below wi.heap.size wi w5:=hB4.trans (hb5.mono (by have:=hB4.size;simp <;> omega));have x0:=kAE x0 _ hb5;have x1:=kAE x1 _ hb5;obtain ⟨a5,m5,c5,rfl⟩:=hown5.shape))
               all_goals go_wp2_with fail
               go_roundw
               case rel=>exact ⟨i+1,_,by omega,by go_num,rfl,hJ (by rw [HFk.out];exact hown5.lower (by have h1:=hB4.size;have h2:=HBi.out.size;omega)),hJ (fun h=>absurd h (by rw [HFk.out];simp)),HBi.out.trans (hB5.mono HBi.out.size)⟩
               case measure=>simp [intOf];omega
             · have HDr:=hJ (HDa.out (some ⟨g,og+k * 2,none⟩) (by simp))
               have HFk:Hid (tidy (l.take (i+1))=out.take k++x :: out.drop k):=hJ (by rw [HF.out];exact kGD x k out (by rw [← HMl.out];omega) HT.out HWhy.out)
               go_wp2_with fail
               go_region_held3 (fun w'=>w'.cell? ⟨b,off+i * 2,none⟩=some (.int .i64 x.const)∧w'.cell? ⟨b,off+i * 2+1,none⟩=some (.slice ax x.terms.length cx)) (first | exact ⟨x0,x1⟩ | go_keep) (first
                | (refine kGR kA2 rfl (.tmp 68) (.tmp 71) rfl wi.heap.size _ [x] (out.drop k) rfl (S:=fun q=>S q∧q<w.heap.size) ?a1 _ _ _ rfl ?a2 ?a3 ?a4 ?a5 ?_
                   case a1=>exact Own.at1 (cs:=[.int .i64 x.const,.slice ax x.terms.length cx]) (by (simp only [kAJ,kAF,Array.getElem?_push,Array.size_push];simp)) (by simp <;> omega) (RLin.below (RLin.mono HXi.out (fun q hq hlt=>⟨hq,by have:=hq.2;have:=HBi.out.size;simp;omega⟩)) (by go_grown))
                   case a2=>exact ((HDr.out.below (by go_grown)).mono (fun q hq hlt=>⟨hq,fun e=>by have h2:=hq.2;have h3:=HBi.out.size;have h4:wi.heap.size=q:=Option.some.inj e;omega⟩))
                   case a3=>simp <;> omega
                   case a4=>unfold maxLen;simp <;> omega
                   case a5=>simp <;> omega
                   intro v4 w4 hown4 hb4 hk4;obtain ⟨a4,c4,rfl,hs4⟩:=hown4.els;have hB4:Below wi.heap.size wi w4:=Below.trans (by go_grown) hb4;have x0:=kAE x0 _ hB4;have x1:=kAE x1 _ hB4)
                | (refine kDS kA2 rfl (.tmp 63) (.tmp 72) rfl _ k (out.take k) ([x]++out.drop k) rfl ((HEi.out.full k (by omega)).below (by first | exact hB4 | exact hB4.drew)) _ _ _ rfl ((hs4.mono (fun q hq _=>hq.1)).below (by first | exact zB _ _ | exact (zB _ _).drew)) (by simp) (by have:=HMl.out;simp;omega) (by have:=HMl.out;unfold maxLen;simp;omega) ?_
                   intro v5 w5 hown5 hb5;have hB5:Below wi.heap.size wi w5:=hB4.trans (hb5.mono (by have:=hB4.size;simp <;> omega));have x0:=kAE x0 _ hb5;have x1:=kAE x1 _ hb5;obtain ⟨a5,m5,c5,rfl⟩:=hown5.shape))
               all_goals go_wp2_with fail
               go_roundw
               case rel=>exact ⟨i+1,_,by omega,by go_num,rfl,hJ (by rw [HFk.out];exact hown5.lower (by have h1:=hB4.size;have h2:=HBi.out.size;omega)),hJ (fun h=>absurd h (by rw [HFk.out];simp)),HBi.out.trans (hB5.mono HBi.out.size)⟩
               case measure=>simp [intOf];omega
    · have HF:Hid (tidy (l.take (i+1))=insU kAX x out):=hJ (by rw [HNx.out,if_neg (by rw [HD.out];simp [h0])])
      have hl0:((x.terms.length:Int)==0)=false:=beq_eq_false_iff_ne.2 (by omega);clear HNx HD h0;generalize hwq:wr=wq at *;clear hwq
      go_wp2_with fail
      go_loopw [5] (fun kv wr=>∃ k:Nat,k≤m∧kv= .int .i64 k∧Hid (∀ j,j<k→kAX (out.getD j default) x<0)∧Below wq.heap.size wq wr) (fun kv _=>m - (intOf kv).toNat)
      case atStart=>exact ⟨0,Nat.zero_le _,rfl,hJ (fun j hj=>absurd hj (by omega)),zB _ _⟩
      case round =>
       obtain ⟨k,hk,rfl,HT,hBq⟩:=hrel;have x0:=kAE e0 _ hBq;have x1:=kAE e1 _ hBq;have HXq:=hJ (RLin.below HX.out hBq);have hzq:=hBq.size;have HOq:=hJ (HO.out.below hBq);have HEq:=hJ (HEl.out.below hBq);have HB2:=hJ (hB.trans (hBq.mono hsz));by_cases hkm:k<m
       · obtain ⟨g,og,rfl,hgW,_⟩:=HOs.out.form k hkm
         obtain ⟨t,hry,⟨ay,cy,rfl,hty⟩,c0,c1⟩:=(HOs.out.below hBq).lin k hkm;have HTn:=hJ (fun q=>upto HT.out (p:=fun j=>kAX (out.getD j default) x<0) q);have hkl:k<out.length:=by rw [← HMl.out];exact hkm
         have HSame:Hid (kAX (out.getD k default) x=0→insU kAX x out=out):=hJ (fun q=>insU_same x k out hkl HT.out q);have HKy:Hid (∀ q:0<kAX (out.getD k default) x,k=out.length∨0<kAX (out.getD k default) x):=hJ (fun q=>.inr q);have HC:=hJ (fun (t:Later wr)=>kF8 (RLin.below hry t.b) (RLin.below HXq.out t.b));have HQ:=hJ (fun (W:World) (hW:Below wr.heap.size wr W) (t:Later W)=>kF7 (RLin.below (RLin.below hry hW) t.b) (RLin.below (RLin.below HXq.out hW) t.b));have hEq:kCN (out.getD k default) x=(kAX (out.getD k default) x==0):=(eqLin_cmp _ _).symm;rw [hEq] at HQ;clear hry hty hkl hEq;obtain ⟨y,hy⟩:∃ y,out.getD k default=y:=⟨_,rfl⟩
         have HYe:=hJ hy;rw [hy] at HC HQ c0 c1 HSame HKy HTn;clear hy;obtain ⟨r,hr⟩:∃ r,kAX y x=r:=⟨_,rfl⟩
         have HRe:=hJ hr;rw [hr] at HC HQ HSame HKy HTn;clear hr;have hkmz:(k:Int)<(m:Int):=by omega
         have C0:=Later.cell c0;have C1:=Later.cell c1;have X0:=Later.cell x0;have X1:=Later.cell x1;by_cases hr:r<0
         · have HTn2:=hJ (HTn.out hr)
           clear HSame HKy HQ HTn
           go_wp2_with fail
           refine kAC (by kernel_rfl) (by kernel_rfl) ?_
           repeat (go_big_quiet_step (first | fail | exact Later.call (HC.out _)))
           refine wpQuiet_nil ?_;rintro _ ⟨t9,rfl⟩;have HBz:Hid (Below wr.heap.size wr t9.w):=hJ t9.b;generalize t9.w=wz at *
           go_wp2_with fail
           go_roundw
           case rel=>exact ⟨k+1,by omega,by go_num,HTn2,hBq.trans (HBz.out.mono hzq)⟩
           case measure=>simp [intOf];omega
         · have HKy2:=hJ (fun q:0<r=>HKy.out q)
           clear HTn HKy
           go_wp2_with fail
           refine kAC (by kernel_rfl) (by kernel_rfl) ?_
           repeat (go_big_quiet_step (first | fail | exact Later.call (HC.out _)))
           refine wpQuiet_nil ?_;rintro _ ⟨t9,rfl⟩;have HBz:Hid (Below wr.heap.size wr t9.w):=hJ t9.b;generalize t9.w=wz at *;have c0:=kAE c0 _ HBz.out;have c1:=kAE c1 _ HBz.out;have x0:=kAE x0 _ HBz.out;have x1:=kAE x1 _ HBz.out;have HQz:=hJ (HQ.out wz HBz.out);clear C0 C1 X0 X1 HC HQ;have C0:=Later.cell c0;have C1:=Later.cell c1;have X0:=Later.cell x0;have X1:=Later.cell x1;by_cases h00:r=0
           · have HFs:Hid (tidy (l.take (i+1))=out):=hJ (by rw [HF.out,HSame.out h00])
             rw [show (r==0)=true by simpa using h00] at HQz;have h00':r=0:=h00
             go_wp2_with fail
             refine kAC (by kernel_rfl) (by kernel_rfl) ?_
             repeat (go_big_quiet_step (first | fail | exact Later.call (HQz.out _)))
             refine wpQuiet_nil ?_;rintro _ ⟨t9,rfl⟩;have HBy:Hid (Below wz.heap.size wz t9.w):=hJ t9.b;generalize t9.w=wy at *
             go_wp2_with fail
             have HBf:=hJ (HBz.out.trans (HBy.out.mono HBz.out.size));go_roundw
             case rel=>exact ⟨i+1,_,by omega,by go_num,rfl,hJ (by rw [HFs.out];exact HOq.out.below HBf.out),hJ (by rw [HFs.out];exact HZ.out),HB2.out.trans (HBf.out.mono HB2.out.size)⟩
             case measure=>simp [intOf];omega
           · have hr0:0<r:=by omega
             rw [show (r==0)=false by simpa using h00] at HQz;have HWhy:Hid (k=out.length∨0<kAX (out.getD k default) x):=hJ (.inr (by rw [HYe.out,HRe.out];exact hr0))
             go_wp2_with fail
             refine kAC (by kernel_rfl) (by kernel_rfl) ?_
             repeat (go_big_quiet_step (first | fail | exact Later.call (HQz.out _)))
             refine wpQuiet_nil ?_;rintro _ ⟨t9,rfl⟩;have HBy:Hid (Below wz.heap.size wz t9.w):=hJ t9.b;generalize t9.w=wi at *;have HBf:=hJ (HBz.out.trans (HBy.out.mono HBz.out.size));have HXi:=hJ (RLin.below HXq.out HBf.out);have HEi:=hJ (HEq.out.below HBf.out);have x0:=kAE x0 _ HBy.out;have x1:=kAE x1 _ HBy.out;have HBi:=hJ (HB2.out.trans (HBf.out.mono HB2.out.size));have hzi:=HBi.out.size;have hkc:¬co=k:=by have:=HEi.out.cap;omega
             have HDr:=hJ (HEi.out.drop k (by omega));clear C0 C1 X0 X1 HQz HSame;have hs3:=fun W:World=>kHH W g og m co k (by have:=HEi.out.cap;omega)
             have HFk:Hid (tidy (l.take (i+1))=out.take k++x :: out.drop k):=hJ (by rw [HF.out];exact kGD x k out (by rw [← HMl.out];omega) HT.out HWhy.out)
             go_wp2_with fail
             go_region_held3 (fun w'=>w'.cell? ⟨b,off+i * 2,none⟩=some (.int .i64 x.const)∧w'.cell? ⟨b,off+i * 2+1,none⟩=some (.slice ax x.terms.length cx)) (first | exact ⟨x0,x1⟩ | go_keep) (first
              | (refine kGR kA2 rfl (.tmp 68) (.tmp 71) rfl wi.heap.size _ [x] (out.drop k) rfl (S:=fun q=>S q∧q<w.heap.size) ?a1 _ _ _ rfl ?a2 ?a3 ?a4 ?a5 ?_
                 case a1=>exact Own.at1 (cs:=[.int .i64 x.const,.slice ax x.terms.length cx]) (by (simp only [kAJ,kAF,Array.getElem?_push,Array.size_push];simp)) (by simp <;> omega) (RLin.below (RLin.mono HXi.out (fun q hq hlt=>⟨hq,by have:=hq.2;have:=HBi.out.size;simp;omega⟩)) (by go_grown))
                 case a2=>exact ((HDr.out.below (by go_grown)).mono (fun q hq hlt=>⟨hq,fun e=>by have h2:=hq.2;have h3:=HBi.out.size;have h4:wi.heap.size=q:=Option.some.inj e;omega⟩))
                 case a3=>simp <;> omega
                 case a4=>unfold maxLen;simp <;> omega
                 case a5=>simp <;> omega
                 intro v4 w4 hown4 hb4 hk4;obtain ⟨a4,c4,rfl,hs4⟩:=hown4.els;have hB4:Below wi.heap.size wi w4:=Below.trans (by go_grown) hb4;have x0:=kAE x0 _ hB4;have x1:=kAE x1 _ hB4)
              | (refine kDS kA2 rfl (.tmp 63) (.tmp 72) rfl _ k (out.take k) ([x]++out.drop k) rfl ((HEi.out.full k (by omega)).below (by first | exact hB4 | exact hB4.drew)) _ _ _ rfl ((hs4.mono (fun q hq _=>hq.1)).below (by first | exact zB _ _ | exact (zB _ _).drew)) (by simp) (by have:=HMl.out;simp;omega) (by have:=HMl.out;unfold maxLen;simp;omega) ?_
                 intro v5 w5 hown5 hb5;have hB5:Below wi.heap.size wi w5:=hB4.trans (hb5.mono (by have:=hB4.size;simp <;> omega));have x0:=kAE x0 _ hb5;have x1:=kAE x1 _ hb5;obtain ⟨a5,m5,c5,rfl⟩:=hown5.shape))
             all_goals go_wp2_with fail
             go_roundw
             case rel=>exact ⟨i+1,_,by omega,by go_num,rfl,hJ (by rw [HFk.out];exact hown5.lower (by have h1:=hB4.size;have h2:=HBi.out.size;omega)),hJ (fun h=>absurd h (by rw [HFk.out];simp)),HBi.out.trans (hB5.mono HBi.out.size)⟩
             case measure=>simp [intOf];omega
       · have HKE:Hid (k=m):=hJ (by omega)
         have HWhy:Hid (k=out.length∨0<kAX (out.getD k default) x):=hJ (.inl (by rw [HKE.out];exact HMl.out));have hkmz:¬ ((k:Int)<(m:Int)):=by omega
         go_wp2_with fail
         refine kAC (by kernel_rfl) (by kernel_rfl) ?_
         repeat (go_big_quiet_step (fail))
         refine wpQuiet_nil ?_;rintro _ ⟨t9,rfl⟩;have HBz0:Hid (Below wr.heap.size wr t9.w):=hJ t9.b;generalize t9.w=wz at *
         go_wp2_with fail
         refine kAC (by kernel_rfl) (by kernel_rfl) ?_
         repeat (go_big_quiet_step (fail))
         refine wpQuiet_nil ?_;rintro _ ⟨t9,rfl⟩;have HBz:Hid (Below wr.heap.size wr t9.w):=hJ (HBz0.out.trans (t9.b.mono HBz0.out.size));generalize t9.w=wi at *;have x0:=kAE x0 _ HBz.out;have x1:=kAE x1 _ HBz.out;have HBi:=hJ (HB2.out.trans (HBz.out.mono HB2.out.size));have HXi:=hJ (RLin.below HXq.out HBz.out);have HEi:=hJ (HEq.out.below HBz.out);have hzi:=HBi.out.size;clear HOq HX HEl HB2 HXq HEq;rcases ao with _ | ad
         · have hco:co=0:=HEi.out.nil rfl
           have hm0:m=0:=by have:=HEi.out.cap;omega
           have hk0:k=0:=by have:=HKE.out;omega
           clear HKE;subst hco;subst hm0;subst hk0;have HDr:Hid (Els RLin (fun q=>S q∧q<w.heap.size) wi none 0 0 (out.drop 0)):=hJ (by have h0:out=[]:=zL HEi.out.len;rw [h0];exact Els.none (by unfold maxLen;omega) (fun _=>rfl));have hs3:=fun W:World=>run_slice3n W
           have HFk:Hid (tidy (l.take (i+1))=out.take 0++x :: out.drop 0):=hJ (by rw [HF.out];exact kGD x 0 out (by rw [← HMl.out];omega) HT.out HWhy.out)
           go_wp2_with fail
           go_region_held3 (fun w'=>w'.cell? ⟨b,off+i * 2,none⟩=some (.int .i64 x.const)∧w'.cell? ⟨b,off+i * 2+1,none⟩=some (.slice ax x.terms.length cx)) (first | exact ⟨x0,x1⟩ | go_keep) (first
            | (refine kGR kA2 rfl (.tmp 68) (.tmp 71) rfl wi.heap.size _ [x] (out.drop 0) rfl (S:=fun q=>S q∧q<w.heap.size) ?a1 _ _ _ rfl ?a2 ?a3 ?a4 ?a5 ?_
               case a1=>exact Own.at1 (cs:=[.int .i64 x.const,.slice ax x.terms.length cx]) (by (simp only [kAJ,kAF,Array.getElem?_push,Array.size_push];simp)) (by simp <;> omega) (RLin.below (RLin.mono HXi.out (fun q hq hlt=>⟨hq,by have:=hq.2;have:=HBi.out.size;simp;omega⟩)) (by go_grown))
               case a2=>exact ((HDr.out.below (by go_grown)).mono (fun q hq hlt=>⟨hq,fun e=>by have h2:=hq.2;have h3:=HBi.out.size;have h4:wi.heap.size=q:=Option.some.inj e;omega⟩))
               case a3=>simp <;> omega
               case a4=>unfold maxLen;simp <;> omega
               case a5=>simp <;> omega
               intro v4 w4 hown4 hb4 hk4;obtain ⟨a4,c4,rfl,hs4⟩:=hown4.els;have hB4:Below wi.heap.size wi w4:=Below.trans (by go_grown) hb4;have x0:=kAE x0 _ hB4;have x1:=kAE x1 _ hB4)
            | (refine kDS kA2 rfl (.tmp 63) (.tmp 72) rfl _ 0 (out.take 0) ([x]++out.drop 0) rfl ((HEi.out.full 0 (by omega)).below (by first | exact hB4 | exact hB4.drew)) _ _ _ rfl ((hs4.mono (fun q hq _=>hq.1)).below (by first | exact zB _ _ | exact (zB _ _).drew)) (by simp) (by have:=HMl.out;simp;omega) (by have:=HMl.out;unfold maxLen;simp;omega) ?_
               intro v5 w5 hown5 hb5;have hB5:Below wi.heap.size wi w5:=hB4.trans (hb5.mono (by have:=hB4.size;simp <;> omega));have x0:=kAE x0 _ hb5;have x1:=kAE x1 _ hb5;obtain ⟨a5,m5,c5,rfl⟩:=hown5.shape))
           all_goals go_wp2_with fail
           go_roundw
           case rel=>exact ⟨i+1,_,by omega,by go_num,rfl,hJ (by rw [HFk.out];exact hown5.lower (by have h1:=hB4.size;have h2:=HBi.out.size;omega)),hJ (fun h=>absurd h (by rw [HFk.out];simp)),HBi.out.trans (hB5.mono HBi.out.size)⟩
           case measure=>simp [intOf];omega
         · obtain ⟨g,og,rfl⟩:∃ g og,ad=⟨g,og,none⟩:=by
            rcases Nat.eq_zero_or_pos m with h | h
            · have:=HZ.out (by rw [← HMl.out];exact h)
              cases this
            · obtain ⟨g,og,e,_⟩:=HOs.out.form 0 h
              cases e;exact ⟨_,_,rfl⟩
           have HDa:Hid (∀ a,a≠none→Els RLin (fun q=>S q∧q<w.heap.size) wi a (m - k) (co - k) (out.drop k)):=hJ (fun a ha=>by have h1:=HEi.out.max;rw [HKE.out,Nat.sub_self,List.drop_of_length_le (by rw [HMl.out];omega)];exact Els.none (by omega) (fun e=>absurd e ha));have hs3:=fun W:World=>kHH W g og m co k (by have:=HEi.out.cap;omega)
           clear hkmz;by_cases hkc:co=k
           · subst hkc
             have HDr:Hid (Els RLin (fun q=>S q∧q<w.heap.size) wi (some ⟨g,og,none⟩) (m - co) 0 (out.drop co)):=hJ (by have h:=HDa.out (some ⟨g,og,none⟩) (by simp);rwa [Nat.sub_self] at h);have HFk:Hid (tidy (l.take (i+1))=out.take co++x :: out.drop co):=hJ (by rw [HF.out];exact kGD x co out (by rw [← HMl.out];omega) HT.out HWhy.out)
             go_wp2_with fail
             go_region_held3 (fun w'=>w'.cell? ⟨b,off+i * 2,none⟩=some (.int .i64 x.const)∧w'.cell? ⟨b,off+i * 2+1,none⟩=some (.slice ax x.terms.length cx)) (first | exact ⟨x0,x1⟩ | go_keep) (first
              | (refine kGR kA2 rfl (.tmp 68) (.tmp 71) rfl wi.heap.size _ [x] (out.drop co) rfl (S:=fun q=>S q∧q<w.heap.size) ?a1 _ _ _ rfl ?a2 ?a3 ?a4 ?a5 ?_
                 case a1=>exact Own.at1 (cs:=[.int .i64 x.const,.slice ax x.terms.length cx]) (by (simp only [kAJ,kAF,Array.getElem?_push,Array.size_push];simp)) (by simp <;> omega) (RLin.below (RLin.mono HXi.out (fun q hq hlt=>⟨hq,by have:=hq.2;have:=HBi.out.size;simp;omega⟩)) (by go_grown))
                 case a2=>exact ((HDr.out.below (by go_grown)).mono (fun q hq hlt=>⟨hq,fun e=>by have h2:=hq.2;have h3:=HBi.out.size;have h4:wi.heap.size=q:=Option.some.inj e;omega⟩))
                 case a3=>simp <;> omega
                 case a4=>unfold maxLen;simp <;> omega
                 case a5=>simp <;> omega
                 intro v4 w4 hown4 hb4 hk4;obtain ⟨a4,c4,rfl,hs4⟩:=hown4.els;have hB4:Below wi.heap.size wi w4:=Below.trans (by go_grown) hb4;have x0:=kAE x0 _ hB4;have x1:=kAE x1 _ hB4)
              | (refine kDS kA2 rfl (.tmp 63) (.tmp 72) rfl _ co (out.take co) ([x]++out.drop co) rfl ((HEi.out.full co (by omega)).below (by first | exact hB4 | exact hB4.drew)) _ _ _ rfl ((hs4.mono (fun q hq _=>hq.1)).below (by first | exact zB _ _ | exact (zB _ _).drew)) (by simp) (by have:=HMl.out;simp;omega) (by have:=HMl.out;unfold maxLen;simp;omega) ?_
                 intro v5 w5 hown5 hb5;have hB5:Below wi.heap.size wi w5:=hB4.trans (hb5.mono (by have:=hB4.size;simp <;> omega));have x0:=kAE x0 _ hb5;have x1:=kAE x1 _ hb5;obtain ⟨a5,m5,c5,rfl⟩:=hown5.shape))
             all_goals go_wp2_with fail
             go_roundw
             case rel=>exact ⟨i+1,_,by omega,by go_num,rfl,hJ (by rw [HFk.out];exact hown5.lower (by have h1:=hB4.size;have h2:=HBi.out.size;omega)),hJ (fun h=>absurd h (by rw [HFk.out];simp)),HBi.out.trans (hB5.mono HBi.out.size)⟩
             case measure=>simp [intOf];omega
           · have HDr:=hJ (HDa.out (some ⟨g,og+k * 2,none⟩) (by simp))
             have HFk:Hid (tidy (l.take (i+1))=out.take k++x :: out.drop k):=hJ (by rw [HF.out];exact kGD x k out (by rw [← HMl.out];omega) HT.out HWhy.out)
             go_wp2_with fail
             go_region_held3 (fun w'=>w'.cell? ⟨b,off+i * 2,none⟩=some (.int .i64 x.const)∧w'.cell? ⟨b,off+i * 2+1,none⟩=some (.slice ax x.terms.length cx)) (first | exact ⟨x0,x1⟩ | go_keep) (first
              | (refine kGR kA2 rfl (.tmp 68) (.tmp 71) rfl wi.heap.size _ [x] (out.drop k) rfl (S:=fun q=>S q∧q<w.heap.size) ?a1 _ _ _ rfl ?a2 ?a3 ?a4 ?a5 ?_
                 case a1=>exact Own.at1 (cs:=[.int .i64 x.const,.slice ax x.terms.length cx]) (by (simp only [kAJ,kAF,Array.getElem?_push,Array.size_push];simp)) (by simp <;> omega) (RLin.below (RLin.mono HXi.out (fun q hq hlt=>⟨hq,by have:=hq.2;have:=HBi.out.size;simp;omega⟩)) (by go_grown))
                 case a2=>exact ((HDr.out.below (by go_grown)).mono (fun q hq hlt=>⟨hq,fun e=>by have h2:=hq.2;have h3:=HBi.out.size;have h4:wi.heap.size=q:=Option.some.inj e;omega⟩))
                 case a3=>simp <;> omega
                 case a4=>unfold maxLen;simp <;> omega
                 case a5=>simp <;> omega
                 intro v4 w4 hown4 hb4 hk4;obtain ⟨a4,c4,rfl,hs4⟩:=hown4.els;have hB4:Below wi.heap.size wi w4:=Below.trans (by go_grown) hb4;have x0:=kAE x0 _ hB4;have x1:=kAE x1 _ hB4)
              | (refine kDS kA2 rfl (.tmp 63) (.tmp 72) rfl _ k (out.take k) ([x]++out.drop k) rfl ((HEi.out.full k (by omega)).below (by first | exact hB4 | exact hB4.drew)) _ _ _ rfl ((hs4.mono (fun q hq _=>hq.1)).below (by first | exact zB _ _ | exact (zB _ _).drew)) (by simp) (by have:=HMl.out;simp;omega) (by have:=HMl.out;unfold maxLen;simp;omega) ?_
                 intro v5 w5 hown5 hb5;have hB5:Below wi.heap.size wi w5:=hB4.trans (hb5.mono (by have:=hB4.size;simp <;> omega));have x0:=kAE x0 _ hb5;have x1:=kAE x1 _ hb5;obtain ⟨a5,m5,c5,rfl⟩:=hown5.shape))
             all_goals go_wp2_with fail
             go_roundw
             case rel=>exact ⟨i+1,_,by omega,by go_num,rfl,hJ (by rw [HFk.out];exact hown5.lower (by have h1:=hB4.size;have h2:=HBi.out.size;omega)),hJ (fun h=>absurd h (by rw [HFk.out];simp)),HBi.out.trans (hB5.mono HBi.out.size)⟩
             case measure=>simp [intOf];omega
  · have HAll:Hid (l.take i=l):=hJ (zT (by rw [HN.out];omega))
    obtain ⟨a0,m0,c0,rfl⟩:=HO.out.shape
    go_wp2_with fail
    go_ret;exact ⟨⟨_,rfl,by have:=HO.out;rwa [HAll.out] at this⟩,hB⟩
theorem put5 {S:Blk} {W0 w1:World} {g B:Nat} {T:TypeId} {z0 z1 z2 z3 z4:Value} (v0 v1 v2 v3 v4:Value) {ds:List Value} {x:Sch} (hb:Bx W0 g T [z0,z1,z2,z3,z4]) (hr:RSch.rd S W0 ds x) (hS:∀ k,S k→k<W0.heap.size→k≠g) (hB:Below B w1 W0) (hg:B≤g) :
 Hid (Bx (((((W0.setCell ⟨g,0,none⟩ v0).setCell ⟨g,1,none⟩ v1).setCell ⟨g,2,none⟩ v2).setCell ⟨g,3,none⟩ v3).setCell ⟨g,4,none⟩ v4) g T [v0,v1,v2,v3,v4])∧Hid (B≤g) ∧
 Hid (RSch.rd (fun k=>S k∧k≠g) (((((W0.setCell ⟨g,0,none⟩ v0).setCell ⟨g,1,none⟩ v1).setCell ⟨g,2,none⟩ v2).setCell ⟨g,3,none⟩ v3).setCell ⟨g,4,none⟩ v4) ds x) ∧
 Hid (Below B w1 (((((W0.setCell ⟨g,0,none⟩ v0).setCell ⟨g,1,none⟩ v1).setCell ⟨g,2,none⟩ v2).setCell ⟨g,3,none⟩ v3).setCell ⟨g,4,none⟩ v4)) :=
 ⟨hJ (((((hb.set 0 v0).set 1 v1).set 2 v2).set 3 v3).set 4 v4),hJ hg,
  hJ (RSch.frame (RSch.mono hr (fun k hk hlt=>⟨hk,hS k hk hlt⟩)) (fun k hk _=>(kAA (fun e=>hk.2 e.symm)).trans ((kAA (fun e=>hk.2 e.symm)).trans ((kAA (fun e=>hk.2 e.symm)).trans ((kAA (fun e=>hk.2 e.symm)).trans (kAA (fun e=>hk.2 e.symm))))))),
  hJ (((((hB.setCell hg _).setCell hg _).setCell hg _).setCell hg _).setCell hg _)⟩
theorem ref12_Canonical {S:Blk} {s:Sch} {cs:List Value} {w:World} (h:RSch.rd S w cs s) (hz:szS s) (hpl:s.params.length≤1000000) (hwl:kAI s=true→s.wh.length≤100) :
 Calls Tryz.prog 7 #[.agg cs.toArray] w fun e w'=>(∃ ds,e= .returned (.tuple #[.agg ds.toArray,.int .i64 (kDF s)])∧RSch.rd (fun q=>w.heap.size≤q) w' ds (can s))∧Below w.heap.size w w':=by
 have HV:Hid (∀ W,Below w.heap.size w W→Calls Tryz.prog 30 #[.agg cs.toArray] W fun e w'=>e= .returned (.bool (kAI s))∧Below W.heap.size W w') :=
  hJ (fun W hW=>kDJ (RSch.below h hW) hz hpl)
 have HSc:=hJ (fun (W:World) (hW:Below w.heap.size w W)=>RSch.below h hW);cases hv:kAI s with
 | false =>
   rw [hv] at HV;have HBd:=hJ (can_no hv);obtain ⟨p,t,q,rfl,⟨ap,cp,rfl,_⟩,⟨at_,ct,rfl,_⟩,⟨aq,cq,rfl,_⟩⟩:=h;clear hv;obtain ⟨B0,ya,yb,hW0⟩:=box2 w 29 [.slice ap s.params.length cp,.string s.result.elem,.string s.result.shape.row,.slice at_ s.result.shape.dims.length ct,.slice aq s.wh.length cq] 29 [.slice none 0 0,.string ⟨#[]⟩,.string ⟨#[]⟩,.slice none 0 0,.slice none 0 0];have xa0:=box0 ya 0 _ rfl;have xa1:=box0 ya 1 _ rfl;have xa2:=box0 ya 2 _ rfl;have xa3:=box0 ya 3 _ rfl;have xa4:=box0 ya 4 _ rfl;have xb0:=box0 yb 0 _ rfl;have xb1:=box0 yb 1 _ rfl;have xb2:=box0 yb 2 _ rfl;have xb3:=box0 yb 3 _ rfl;have xb4:=box0 yb 4 _ rfl;have bka:Bx _ _ _ _:=ya;have bkb:Bx _ _ _ _:=yb;clear ya yb;have HR0:=hJ bkb;clear bka bkb;go_enter func7,ntmps7
   go_wp2_with fail
   refine (HV.out _ B0.out).mono ?_;rintro e w1 ⟨rfl,hb1⟩;have HRw:=hJ (HR0.out.below hb1 HR0.out.lt);have HWw:Hid (Below w.heap.size w w1):=hJ (B0.out.trans (hb1.mono B0.out.size));clear xa0 xa1 xa2 xa3 xa4 xb0 xb1 xb2 xb3 xb4 hb1 HR0 B0 HV;have v0:=HRw.out.cell 0 _ rfl;have v1:=HRw.out.cell 1 _ rfl;have v2:=HRw.out.cell 2 _ rfl;have v3:=HRw.out.cell 3 _ rfl;have v4:=HRw.out.cell 4 _ rfl;have u0:=HRw.out.fz 0;have u1:=HRw.out.fz 1;have u2:=HRw.out.fz 2;have u3:=HRw.out.fz 3;have u4:=HRw.out.fz 4;have hlr:=HRw.out.lt;have HX60:=hJ (((((HRw.out.set 0 (.slice none 0 0)).set 1 (.string ⟨#[]⟩)).set 2 (.string ⟨#[]⟩)).set 3 (.slice none 0 0)).set 4 (.slice none 0 0));have s0:=HX60.out.cell 0 _ rfl;have s1:=HX60.out.cell 1 _ rfl;have s2:=HX60.out.cell 2 _ rfl;have s3:=HX60.out.cell 3 _ rfl;have s4:=HX60.out.cell 4 _ rfl
   go_wp2_with fail
   refine bodyPost_ret (v:=.tuple #[.agg #[.slice none 0 0,.string ⟨#[]⟩,.string ⟨#[]⟩,.slice none 0 0,.slice none 0 0],.int .i64 1]) (by simp [results,results7,go_sem,s0,s1,s2,s3,s4,hlr]) rfl ?_;refine ⟨⟨[.slice none 0 0,.string ⟨#[]⟩,.string ⟨#[]⟩,.slice none 0 0,.slice none 0 0],by rw [HBd.out.1],by rw [HBd.out.2];exact (kE8.no _ _).rd⟩,?_⟩
   repeat (first | exact HWw.out | refine Below.setCell ?_ (by show _≤w.heap.size+1;omega) _)
 | true =>
   rw [hv] at HV;have HCV:=hJ (fun (W:World) (hW:Below w.heap.size w W)=>ref12_Renaming (HSc.out W hW) hv);have HCS:=hJ (fun (W:World) (hW:Below w.heap.size w W) (T:Blk) (a:Option Addr) (nb cb:Nat) (hbs:Sl RBnd T W a nb cb (ren (kAG s)))=>(ref12_SubstScheme (HSc.out W hW) hv (ren (kAG s)) a nb cb hbs (kIG hv)).mono fun e w' ⟨⟨ds,he,ho⟩,hb⟩=>(⟨⟨ds,he,ho.plain (fun q h=>h.1 (ren_plain (kA5 hv)))⟩,hb⟩:(∃ ds:List Value,e=Ending.returned (.tuple #[.agg ds.toArray,.int .i64 (kBT (ren (kAG s)) s)])∧kE8 W.heap.size w' ds (kBG (ren (kAG s)) s))∧Below W.heap.size W w'));have HBad:=hJ (fun q=>can_bad hv q);have HGood:=hJ (fun q=>can_good hv q);have HWL:Hid (s.wh.length≤100):=hJ (hwl hv);obtain ⟨p,t,q,rfl,⟨ap,cp,rfl,_⟩,⟨at_,ct,rfl,_⟩,⟨aq,cq,rfl,_⟩⟩:=h;clear hv hwl HSc;generalize kAG s=L at *;obtain ⟨B0,ya,yb,hW0⟩:=box2 w 29 [.slice ap s.params.length cp,.string s.result.elem,.string s.result.shape.row,.slice at_ s.result.shape.dims.length ct,.slice aq s.wh.length cq] 29 [.slice none 0 0,.string ⟨#[]⟩,.string ⟨#[]⟩,.slice none 0 0,.slice none 0 0];have xa0:=box0 ya 0 _ rfl;have xa1:=box0 ya 1 _ rfl;have xa2:=box0 ya 2 _ rfl;have xa3:=box0 ya 3 _ rfl;have xa4:=box0 ya 4 _ rfl;have xb0:=box0 yb 0 _ rfl;have xb1:=box0 yb 1 _ rfl;have xb2:=box0 yb 2 _ rfl;have xb3:=box0 yb 3 _ rfl;have xb4:=box0 yb 4 _ rfl;have bka:Bx _ _ _ _:=ya;have bkb:Bx _ _ _ _:=yb;clear ya yb;have HA0:=hJ bka;have HR0:=hJ bkb;clear bka bkb;go_enter func7,ntmps7
   go_wp2_with fail
   refine (HV.out _ B0.out).mono ?_;rintro e w1 ⟨rfl,hb1⟩;have HA1:=hJ (HA0.out.below hb1 HA0.out.lt);have HR1:=hJ (HR0.out.below hb1 HR0.out.lt);have HW1:Hid (Below w.heap.size w w1):=hJ (B0.out.trans (hb1.mono B0.out.size));clear xa0 xa1 xa2 xa3 xa4 xb0 xb1 xb2 xb3 xb4 hb1 HR0 HA0 B0 HV;have hz1:w.heap.size+1<w1.heap.size:=HR1.out.lt;have y0:=HA1.out.cell 0 _ rfl;have y1:=HA1.out.cell 1 _ rfl;have y2:=HA1.out.cell 2 _ rfl;have y3:=HA1.out.cell 3 _ rfl;have y4:=HA1.out.cell 4 _ rfl;generalize hbb:ren L=b at *;clear hbb;have HZ1:=hJ hz1;clear hz1
   go_upto_region 3 with fail
   go_cut [4,5] (fun v4 v5 W=>∃ g ap3 cp3 at3 ct3 aq3 cq3,v4= .pointer (some ⟨g,0,none⟩)∧v5= .int .i64 (kBT b s)∧Hid (Bx W g 29 [.slice ap3 (kBG b s).params.length cp3,.string (kBG b s).result.elem,.string (kBG b s).result.shape.row,.slice at3 (kBG b s).result.shape.dims.length ct3,.slice aq3 (kBG b s).wh.length cq3])∧Hid (w1.heap.size≤g)∧Hid (RSch.rd (fun k=>w1.heap.size≤k∧k≠g) W [.slice ap3 (kBG b s).params.length cp3,.string (kBG b s).result.elem,.string (kBG b s).result.shape.row,.slice at3 (kBG b s).result.shape.dims.length ct3,.slice aq3 (kBG b s).wh.length cq3] (kBG b s))∧Hid (Below w1.heap.size w1 W))
   case first =>
    go_region_held3 (fun W=>W.cell? ⟨w.heap.size,0,none⟩=some (.slice ap s.params.length cp)∧W.cell? ⟨w.heap.size,1,none⟩=some (.string s.result.elem)∧W.cell? ⟨w.heap.size,2,none⟩=some (.string s.result.shape.row)∧W.cell? ⟨w.heap.size,3,none⟩=some (.slice at_ s.result.shape.dims.length ct)∧W.cell? ⟨w.heap.size,4,none⟩=some (.slice aq s.wh.length cq)) (first | (with_reducible exact ⟨bb0,bb1,bb2,bb3,bb4⟩) | (with_reducible exact ⟨aa0,aa1,aa2,aa3,aa4⟩) | (with_reducible exact ⟨y0,y1,y2,y3,y4⟩) | go_keep) (first
    | (go_at_call 32
       refine (HCV.out w1.drew (HW1.out.trans (Below.mono (B:=w1.heap.size) ((zB _ _).drew) HW1.out.size))).mono ?_;rintro e w2 ⟨⟨v2,rfl,hown2⟩,hb2⟩;obtain ⟨a2,c2,rfl,hs2⟩:=hown2.sl;have hB2:Below w1.heap.size w1 w2:=Below.trans ((zB _ _).drew) (hb2.mono (by simp));have hz2:=hB2.size;have aa0:=kAE y0 _ hB2;have aa1:=kAE y1 _ hB2;have aa2:=kAE y2 _ hB2;have aa3:=kAE y3 _ hB2;have aa4:=kAE y4 _ hB2)
    | (go_at_call 32
       refine (HCV.out (w1.alloc (.cells #[.slice none 0 0,.string ⟨#[]⟩,.string ⟨#[]⟩,.slice none 0 0,.slice none 0 0] 29)).drew (HW1.out.trans (Below.mono (B:=w1.heap.size) (((zB _ _).alloc (zR _) _).drew) HW1.out.size))).mono ?_;rintro e w2 ⟨⟨v2,rfl,hown2⟩,hb2⟩;obtain ⟨a2,c2,rfl,hs2⟩:=hown2.sl;have hB2:Below w1.heap.size w1 w2:=Below.trans (((zB _ _).alloc (zR _) _).drew) (hb2.mono (by simp));have hz2:=hB2.size;have HP2:Hid (Bx w2 w1.heap.size 29 [.slice none 0 0,.string ⟨#[]⟩,.string ⟨#[]⟩,.slice none 0 0,.slice none 0 0]):=hJ (Bx.below (Bx.fresh w1 _ _) hb2 (by simp));have aa0:=kAE y0 _ hB2;have aa1:=kAE y1 _ hB2;have aa2:=kAE y2 _ hB2;have aa3:=kAE y3 _ hB2;have aa4:=kAE y4 _ hB2)
    | (go_at_call 32
       refine (HCV.out (w1.drew.alloc (.cells #[.slice none 0 0,.string ⟨#[]⟩,.string ⟨#[]⟩,.slice none 0 0,.slice none 0 0] 29)) (HW1.out.trans (Below.mono (B:=w1.heap.size) (((zB _ _).drew).alloc (zR _) _) HW1.out.size))).mono ?_;rintro e w2 ⟨⟨v2,rfl,hown2⟩,hb2⟩;obtain ⟨a2,c2,rfl,hs2⟩:=hown2.sl;have hB2:Below w1.heap.size w1 w2:=Below.trans (((zB _ _).drew).alloc (zR _) _) (hb2.mono (by simp));have hz2:=hB2.size;have HP2:Hid (Bx w2 w1.heap.size 29 [.slice none 0 0,.string ⟨#[]⟩,.string ⟨#[]⟩,.slice none 0 0,.slice none 0 0]):=hJ (Bx.below (Bx.fresh w1.drew _ _) hb2 (by simp));have aa0:=kAE y0 _ hB2;have aa1:=kAE y1 _ hB2;have aa2:=kAE y2 _ hB2;have aa3:=kAE y3 _ hB2;have aa4:=kAE y4 _ hB2)
    | (go_at_call 31
       have HP2':=HP2;refine (HCS.out w2 (HW1.out.trans ((hB2.trans (Below.mono (B:=w2.heap.size) (zB _ _) hB2.size)).mono HW1.out.size)) _ _ _ _ (hs2.below (zB _ _))).mono ?_;rintro e w3 ⟨⟨ds,rfl,hos⟩,hb3⟩;have hr3:=hos.rd;obtain ⟨base,_,_,_,hb0,rfl,⟨ap3,cp3,rfl,hp3⟩,⟨at3,ct3,rfl,ht3⟩,hq3⟩:=hos;obtain ⟨aq3,cq3,rfl,hsq3⟩:=hq3.sl;have hBs:Below w2.heap.size w2 w3:=Below.trans (zB _ _) (hb3.mono (by simp));have hB3:Below w1.heap.size w1 w3:=hB2.trans (hBs.mono hB2.size);have HP3:Hid (Bx w3 w1.heap.size 29 [.slice none 0 0,.string ⟨#[]⟩,.string ⟨#[]⟩,.slice none 0 0,.slice none 0 0]):=hJ (HP2.out.below hBs HP2.out.lt);have hg3:w1.heap.size<w2.heap.size:=HP2.out.lt;have hl3:=HP3.out.lt;have c0:=HP3.out.cell 0 _ rfl;have f0:=HP3.out.fz 0;have c1:=HP3.out.cell 1 _ rfl;have f1:=HP3.out.fz 1;have c2:=HP3.out.cell 2 _ rfl;have f2:=HP3.out.fz 2;have c3:=HP3.out.cell 3 _ rfl;have f3:=HP3.out.fz 3;have c4:=HP3.out.cell 4 _ rfl;have f4:=HP3.out.fz 4;have hn1:¬ w2.heap.size=w.heap.size:=by have:=HZ1.out;have:=hB2.size;omega
       have hn2:¬ w.heap.size=w2.heap.size:=fun e=>hn1 e.symm
       have hn3:¬ w1.heap.size=w.heap.size:=by have:=HZ1.out;omega
       have hn4:¬ w.heap.size=w1.heap.size:=fun e=>hn3 e.symm
       clear hb0 hp3 ht3 hq3 hsq3;have bb0:=kAE y0 _ hB3;have bb1:=kAE y1 _ hB3;have bb2:=kAE y2 _ hB3;have bb3:=kAE y3 _ hB3;have bb4:=kAE y4 _ hB3)
    | (go_at_call 31
       refine (HCS.out w2 (HW1.out.trans ((hB2.trans (Below.mono (B:=w2.heap.size) (zB _ _) hB2.size)).mono HW1.out.size)) _ _ _ _ (hs2.below (zB _ _))).mono ?_;rintro e w3 ⟨⟨ds,rfl,hos⟩,hb3⟩;have hr3:=hos.rd;obtain ⟨base,_,_,_,hb0,rfl,⟨ap3,cp3,rfl,hp3⟩,⟨at3,ct3,rfl,ht3⟩,hq3⟩:=hos;obtain ⟨aq3,cq3,rfl,hsq3⟩:=hq3.sl;have hBs:Below w2.heap.size w2 w3:=Below.trans (zB _ _) (hb3.mono (by simp));have hB3:Below w1.heap.size w1 w3:=hB2.trans (hBs.mono hB2.size);have hn1:¬ w2.heap.size=w.heap.size:=by have:=HZ1.out;have:=hB2.size;omega
       have hn2:¬ w.heap.size=w2.heap.size:=fun e=>hn1 e.symm
       have hn3:¬ w1.heap.size=w.heap.size:=by have:=HZ1.out;omega
       have hn4:¬ w.heap.size=w1.heap.size:=fun e=>hn3 e.symm
       clear hb0 hp3 ht3 hq3 hsq3;have bb0:=kAE y0 _ hB3;have bb1:=kAE y1 _ hB3;have bb2:=kAE y2 _ hB3;have bb3:=kAE y3 _ hB3;have bb4:=kAE y4 _ hB3)
    | (go_at_call 31
       refine (HCS.out (w2.alloc (.cells #[.slice none 0 0,.string ⟨#[]⟩,.string ⟨#[]⟩,.slice none 0 0,.slice none 0 0] 29)) (HW1.out.trans ((hB2.trans (Below.mono (B:=w2.heap.size) ((zB _ _).alloc (zR _) _) hB2.size)).mono HW1.out.size)) _ _ _ _ (hs2.below ((zB _ _).alloc (zR _) _))).mono ?_;rintro e w3 ⟨⟨ds,rfl,hos⟩,hb3⟩;have hr3:=hos.rd;obtain ⟨base,_,_,_,hb0,rfl,⟨ap3,cp3,rfl,hp3⟩,⟨at3,ct3,rfl,ht3⟩,hq3⟩:=hos;obtain ⟨aq3,cq3,rfl,hsq3⟩:=hq3.sl;have hBs:Below w2.heap.size w2 w3:=Below.trans ((zB _ _).alloc (zR _) _) (hb3.mono (by simp));have hB3:Below w1.heap.size w1 w3:=hB2.trans (hBs.mono hB2.size);have HP3:Hid (Bx w3 w2.heap.size 29 [.slice none 0 0,.string ⟨#[]⟩,.string ⟨#[]⟩,.slice none 0 0,.slice none 0 0]):=hJ (Bx.below (Bx.fresh w2 _ _) hb3 (by simp));have hl3:=HP3.out.lt;have c0:=HP3.out.cell 0 _ rfl;have f0:=HP3.out.fz 0;have c1:=HP3.out.cell 1 _ rfl;have f1:=HP3.out.fz 1;have c2:=HP3.out.cell 2 _ rfl;have f2:=HP3.out.fz 2;have c3:=HP3.out.cell 3 _ rfl;have f3:=HP3.out.fz 3;have c4:=HP3.out.cell 4 _ rfl;have f4:=HP3.out.fz 4;have hn1:¬ w2.heap.size=w.heap.size:=by have:=HZ1.out;have:=hB2.size;omega
       have hn2:¬ w.heap.size=w2.heap.size:=fun e=>hn1 e.symm
       have hn3:¬ w1.heap.size=w.heap.size:=by have:=HZ1.out;omega
       have hn4:¬ w.heap.size=w1.heap.size:=fun e=>hn3 e.symm
       clear hb0 hp3 ht3 hq3 hsq3;have bb0:=kAE y0 _ hB3;have bb1:=kAE y1 _ hB3;have bb2:=kAE y2 _ hB3;have bb3:=kAE y3 _ hB3;have bb4:=kAE y4 _ hB3))
    all_goals
     have HQ3:=hJ hr3;have HBB:=hJ hB3;have HB2':=hJ hB2;clear hr3 hB3 hB2 hb2 hb3 y0 y1 y2 y3 y4 aa0 aa1 aa2 aa3 aa4 bb0 bb1 bb2 bb3 bb4 hs2 hown2 hn1 hn2 hn3 hn4 hBs
     go_wp2_with fail
     go_meet
     have hz1:=HZ1.out;have hz2:=HB2'.out.size;have hz3:=HBB.out.size
    · refine ⟨w3.heap.size,ap3,cp3,at3,ct3,aq3,cq3,rfl,rfl,hJ (Bx.fresh w3 _ _),hJ hz3,hJ ?_,hJ (HBB.out.alloc hz3 _)⟩
      exact RSch.below (RSch.mono HQ3.out (fun k hk hlt=>⟨zE hz2 hk,Nat.ne_of_lt hlt⟩)) ((zB _ _).alloc (zR _) _)
    · have hq:=put5 (B:=w1.heap.size) (g:=w2.heap.size) (.slice ap3 (kBG b s).params.length cp3) (.string (kBG b s).result.elem) (.string (kBG b s).result.shape.row) (.slice at3 (kBG b s).result.shape.dims.length ct3) (.slice aq3 (kBG b s).wh.length cq3) HP3.out HQ3.out (fun k hk _=>Nat.ne_of_gt (Nat.lt_of_lt_of_le (by simp) hk)) HBB.out hz2
      refine ⟨w2.heap.size,ap3,cp3,at3,ct3,aq3,cq3,rfl,rfl,hq.1,hq.2.1,hJ ?_,hq.2.2.2⟩;exact RSch.mono hq.2.2.1.out (fun k hk _=>⟨by have:=hk.1;simp at this;omega,hk.2⟩)
    · have hq:=put5 (B:=w1.heap.size) (g:=w1.heap.size) (.slice ap3 (kBG b s).params.length cp3) (.string (kBG b s).result.elem) (.string (kBG b s).result.shape.row) (.slice at3 (kBG b s).result.shape.dims.length ct3) (.slice aq3 (kBG b s).wh.length cq3) HP3.out HQ3.out (fun k hk _ e=>by rw [e] at hk;omega) HBB.out (zR _)
      refine ⟨w1.heap.size,ap3,cp3,at3,ct3,aq3,cq3,rfl,rfl,hq.1,hq.2.1,hJ ?_,hq.2.2.2⟩;exact RSch.mono hq.2.2.1.out (fun k hk _=>⟨zE hz2 hk.1,hk.2⟩)
   case rest =>
    obtain ⟨g,ap3,cp3,at3,ct3,aq3,cq3,rfl,rfl,HP,HG,HR,HB⟩:=hcut;have HRw:=hJ (HR1.out.below HB.out HR1.out.lt);have HWw:Hid (Below w.heap.size w wc):=hJ (HW1.out.trans (HB.out.mono HW1.out.size));clear y0 y1 y2 y3 y4 HCV HCS;cases hok:kBO b s with
    | false =>
      have HBd:=hJ (HBad.out hok);rw [(sch_no hok).2];clear hok HGood HBad;have v0:=HRw.out.cell 0 _ rfl;have v1:=HRw.out.cell 1 _ rfl;have v2:=HRw.out.cell 2 _ rfl;have v3:=HRw.out.cell 3 _ rfl;have v4:=HRw.out.cell 4 _ rfl;have u0:=HRw.out.fz 0;have u1:=HRw.out.fz 1;have u2:=HRw.out.fz 2;have u3:=HRw.out.fz 3;have u4:=HRw.out.fz 4;have hlr:=HRw.out.lt;have HX60:=hJ (((((HRw.out.set 0 (.slice none 0 0)).set 1 (.string ⟨#[]⟩)).set 2 (.string ⟨#[]⟩)).set 3 (.slice none 0 0)).set 4 (.slice none 0 0));have s0:=HX60.out.cell 0 _ rfl;have s1:=HX60.out.cell 1 _ rfl;have s2:=HX60.out.cell 2 _ rfl;have s3:=HX60.out.cell 3 _ rfl;have s4:=HX60.out.cell 4 _ rfl
      go_wp2_with fail
      refine bodyPost_ret (v:=.tuple #[.agg #[.slice none 0 0,.string ⟨#[]⟩,.string ⟨#[]⟩,.slice none 0 0,.slice none 0 0],.int .i64 3]) (by simp [results,results7,go_sem,s0,s1,s2,s3,s4,hlr]) rfl ?_;refine ⟨⟨[.slice none 0 0,.string ⟨#[]⟩,.string ⟨#[]⟩,.slice none 0 0,.slice none 0 0],by rw [HBd.out.1],by rw [HBd.out.2];exact (kE8.no _ _).rd⟩,?_⟩
      repeat (first | exact HWw.out | refine Below.setCell ?_ (by show _≤w.heap.size+1;omega) _)
    | true =>
      obtain ⟨hg0,hg1⟩:=HGood.out hok;have HG0:=hJ hg0;have HE0:kBT b s=0:=by unfold kBT;rw [hok];rfl
      have HS1:kBG b s=kBH b s:=by unfold kBG;rw [hok];rfl
      rw [HE0];rw [HS1] at HP HR;have HSp:Hid (can s=⟨(kBH b s).params,(kBH b s).result,tidy (kBH b s).wh⟩):=hJ hg1
      have hwl:(kBH b s).wh.length≤100:=by
       have h1:(kBH b s).wh=s.wh.map (kAD b):=rfl;rw [h1,List.length_map];exact HWL.out
      clear hok HGood HBad hg0 hg1 HE0 HS1;generalize kBH b s=s' at *;obtain ⟨_,_,_,e,⟨_,_,e1,hp3⟩,⟨_,_,e2,ht3⟩,⟨_,_,e3,hq3⟩⟩:=HR.out;simp only [List.cons.injEq,and_true,true_and] at e;obtain ⟨rfl,rfl,rfl⟩:=e;rw [Value.slice.injEq] at e1 e2 e3;obtain ⟨rfl,-,rfl⟩:=e1;obtain ⟨rfl,-,rfl⟩:=e2;obtain ⟨rfl,-,rfl⟩:=e3;have HPs:=hJ hp3;have HTs:=hJ ht3;have HTd:=hJ (ref12_Tidy s'.wh aq3 _ cq3 wc hq3 hwl);have q4:=HP.out.cell 4 _ rfl;clear hp3 ht3 hq3 HR hwl
      go_wp2_with fail
      refine HTd.out.mono ?_;rintro e w8 ⟨⟨v1,rfl,hown8⟩,hb8⟩;obtain ⟨a8,c8,rfl,hs8⟩:=hown8.sl;have HS8:=hJ hs8;have HB8:=hJ hb8;have hlg:=HP.out.lt;have HP8:=hJ (HP.out.below hb8 hlg);have HR8:=hJ (HRw.out.below hb8 HRw.out.lt);have hz8:=hb8.size;have hzg:w.heap.size+1<g:=Nat.lt_of_lt_of_le HZ1.out HG.out;clear hown8 hs8 hb8 q4 HTd HP HRw;have r4:=HP8.out.cell 4 _ rfl;have g4:=HP8.out.fz 4;have HP12:=hJ (HP8.out.set 4 (.slice a8 (tidy s'.wh).length c8));have p0:=HP12.out.cell 0 _ rfl;have p1:=HP12.out.cell 1 _ rfl;have p2:=HP12.out.cell 2 _ rfl;have p3:=HP12.out.cell 3 _ rfl;have p4:=HP12.out.cell 4 _ rfl;have HRw:Hid (Bx (w8.setCell ⟨g,4,none⟩ (.slice a8 (tidy s'.wh).length c8)) (w.heap.size+1) 29 _):=hJ (HR8.out.other (by show g≠w.heap.size+1;omega));have v0:=HRw.out.cell 0 _ rfl;have v1:=HRw.out.cell 1 _ rfl;have v2:=HRw.out.cell 2 _ rfl;have v3:=HRw.out.cell 3 _ rfl;have v4:=HRw.out.cell 4 _ rfl;have u0:=HRw.out.fz 0;have u1:=HRw.out.fz 1;have u2:=HRw.out.fz 2;have u3:=HRw.out.fz 3;have u4:=HRw.out.fz 4;have hlr:=HRw.out.lt;have HX60:=hJ (((((HRw.out.set 0 (.slice ap3 s'.params.length cp3)).set 1 (.string s'.result.elem)).set 2 (.string s'.result.shape.row)).set 3 (.slice at3 s'.result.shape.dims.length ct3)).set 4 (.slice a8 (tidy s'.wh).length c8));have s0:=HX60.out.cell 0 _ rfl;have s1:=HX60.out.cell 1 _ rfl;have s2:=HX60.out.cell 2 _ rfl;have s3:=HX60.out.cell 3 _ rfl;have s4:=HX60.out.cell 4 _ rfl
      go_wp2_with fail
      refine bodyPost_ret (v:=.tuple #[.agg #[.slice ap3 s'.params.length cp3,.string s'.result.elem,.string s'.result.shape.row,.slice at3 s'.result.shape.dims.length ct3,.slice a8 (tidy s'.wh).length c8],.int .i64 0]) (by simp [results,results7,go_sem,s0,s1,s2,s3,s4,hlr]) rfl ?_;have hF:∀ q,q≠g→q≠w.heap.size+1→((((((w8.setCell ⟨g,4,none⟩ (.slice a8 (tidy s'.wh).length c8)).setCell ⟨w.heap.size+1,0,none⟩ (.slice ap3 s'.params.length cp3)).setCell ⟨w.heap.size+1,1,none⟩ (.string s'.result.elem)).setCell ⟨w.heap.size+1,2,none⟩ (.string s'.result.shape.row)).setCell ⟨w.heap.size+1,3,none⟩ (.slice at3 s'.result.shape.dims.length ct3)).setCell ⟨w.heap.size+1,4,none⟩ (.slice a8 (tidy s'.wh).length c8)).heap[q]? =w8.heap[q]? :=fun q h1 h2=>(kAA (fun e=>h2 e.symm)).trans ((kAA (fun e=>h2 e.symm)).trans ((kAA (fun e=>h2 e.symm)).trans ((kAA (fun e=>h2 e.symm)).trans ((kAA (fun e=>h2 e.symm)).trans (kAA (fun e=>h1 e.symm))))))
      have hz1:=HZ1.out;have hFp:∀ q,(w1.heap.size≤q∧q≠g)→q<wc.heap.size→((((((w8.setCell ⟨g,4,none⟩ (.slice a8 (tidy s'.wh).length c8)).setCell ⟨w.heap.size+1,0,none⟩ (.slice ap3 s'.params.length cp3)).setCell ⟨w.heap.size+1,1,none⟩ (.string s'.result.elem)).setCell ⟨w.heap.size+1,2,none⟩ (.string s'.result.shape.row)).setCell ⟨w.heap.size+1,3,none⟩ (.slice at3 s'.result.shape.dims.length ct3)).setCell ⟨w.heap.size+1,4,none⟩ (.slice a8 (tidy s'.wh).length c8)).heap[q]? =wc.heap[q]? :=fun q h1 h2=>(hF q h1.2 (by have:=h1.1;omega)).trans (HB8.out.block q h2)
      refine ⟨⟨[.slice ap3 s'.params.length cp3,.string s'.result.elem,.string s'.result.shape.row,.slice at3 s'.result.shape.dims.length ct3,.slice a8 (tidy s'.wh).length c8],by rw [HG0.out],?_⟩,?_⟩
      · rw [HSp.out]
        refine ⟨_,_,_,rfl,⟨ap3,cp3,rfl,(HPs.out.frame hFp).mono (fun k hk _=>by have:=hk.1;omega)⟩,⟨at3,ct3,rfl,(HTs.out.frame hFp).mono (fun k hk _=>by have:=hk.1;omega)⟩,⟨a8,c8,rfl,?_⟩⟩;refine (HS8.out.frame (fun k hk _=>hF k ?ha ?hb)).mono (fun k hk _=>?hc)
        case ha=>rcases hk with hk | hk;exact hk.1.2;omega
        case hb=>rcases hk with hk | hk;have:=hk.1.1;omega;omega
        case hc=>rcases hk with hk | hk;have:=hk.1.1;omega;omega
      · have hB':=HWw.out.trans (HB8.out.mono (B':=w.heap.size) HWw.out.size)
        exact (((((hB'.setCell (by show w.heap.size≤g;omega) _).setCell (by show w.heap.size≤w.heap.size+1;omega) _).setCell (by show w.heap.size≤w.heap.size+1;omega) _).setCell (by show w.heap.size≤w.heap.size+1;omega) _).setCell (by show w.heap.size≤w.heap.size+1;omega) _).setCell (by show w.heap.size≤w.heap.size+1;omega) _
theorem eqList_len {α :Type} [Inhabited α] {p: α → α →Bool} {l l2:List α} (h:l.length≠l2.length):kBI p l l2=false:=by
 unfold kBI;rw [show (l.length==l2.length)=false from beq_eq_false_iff_ne.2 h];rfl
theorem eqList_bad {α :Type} [Inhabited α] {p: α → α →Bool} {l l2:List α} {k:Nat} (hk:k<l.length) (h:p (l.getD k default) (l2.getD k default)=false):kBI p l l2=false:=by
 unfold kBI;rw [kHU hk h,Bool.and_false]
theorem eqList_good {α :Type} [Inhabited α] {p: α → α →Bool} {l l2:List α} (hl:l.length=l2.length) (h:∀ j,j<l.length→p (l.getD j default) (l2.getD j default)=true):kBI p l l2=true:=by
 unfold kBI;rw [show (l.length==l2.length)=true from beq_iff_eq.2 hl,kDP h];rfl
theorem allT_len (x:Sch):(allT x).length=x.params.length+1:=by unfold allT;rw [zP];rfl
theorem eqSch_all (x y:Sch):eqSch x y=(kBI kI6 (allT x) (allT y) && kBI kCN x.wh y.wh):=by
 rw [Bool.eq_iff_iff,eqSch_iff,zA,kEG _ eqTyp_iff,kEG _ kFV];unfold allT
 constructor
 · rintro rfl;exact ⟨rfl,rfl⟩
 · rintro ⟨h1,h2⟩
   have:=List.append_inj' h1 rfl;cases x;cases y
   simp_all
theorem kDK {S T:Blk} {x y:Sch} {cs ds:List Value} {w:World} (h:RSch.rd S w cs x) (h2:RSch.rd T w ds y) (hnx:x.params.length≤1000000) (hny:y.params.length≤1000000) :
 Calls Tryz.prog 8 #[.agg cs.toArray,.agg ds.toArray] w fun e w'=>e= .returned (.bool (eqSch x y))∧Below w.heap.size w w':=by
 have HCX:Hid (∀ W,Below w.heap.size w W→Calls Tryz.prog 17 #[.agg cs.toArray] W fun e w'=>(∃ v,e= .returned v∧Own RTyp 27 S w' W.heap.size v (allT x))∧Below W.heap.size W w') :=
  hJ (fun W hW=>kFN (RSch.below h hW) hnx)
 have HCY:Hid (∀ W,Below w.heap.size w W→Calls Tryz.prog 17 #[.agg ds.toArray] W fun e w'=>(∃ v,e= .returned v∧Own RTyp 27 T w' W.heap.size v (allT y))∧Below W.heap.size W w') :=
  hJ (fun W hW=>kFN (RSch.below h2 hW) hny)
 obtain ⟨_,_,_,rfl,⟨ap,cp,rfl,hp⟩,⟨at_,ct,rfl,ht⟩,⟨aq,cq,rfl,hq⟩⟩:=h;obtain ⟨_,_,_,rfl,⟨ap2,cp2,rfl,hp2⟩,⟨at2,ct2,rfl,ht2⟩,⟨aq2,cq2,rfl,hq2⟩⟩:=h2;have HQ0:=hJ hq;have HQ20:=hJ hq2;have hm:=hq.small;have hm2:=hq2.small;clear hp ht hq hp2 ht2 hq2;have HN:=hJ (eqSch_all x y);have HAX:=hJ (allT_len x);have HAY:=hJ (allT_len y);generalize hn1:x.params.length=n at *;generalize hn2:y.params.length=n2 at *;generalize hl1:x.wh.length=m at *;generalize hl2:y.wh.length=m2 at *;have HL1:=hJ hl1;have HL2:=hJ hl2;clear hn1 hn2 hl1 hl2;by_cases hd:n=n2
 case neg =>
  obtain ⟨B0,ya,yb,hW0⟩:=box2 w 29 [.slice ap n cp,.string x.result.elem,.string x.result.shape.row,.slice at_ x.result.shape.dims.length ct,.slice aq m cq] 29 [.slice ap2 n2 cp2,.string y.result.elem,.string y.result.shape.row,.slice at2 y.result.shape.dims.length ct2,.slice aq2 m2 cq2];have xa0:=box0 ya 0 _ rfl;have xa1:=box0 ya 1 _ rfl;have xa2:=box0 ya 2 _ rfl;have xa3:=box0 ya 3 _ rfl;have xa4:=box0 ya 4 _ rfl;have xb0:=box0 yb 0 _ rfl;have xb1:=box0 yb 1 _ rfl;have xb2:=box0 yb 2 _ rfl;have xb3:=box0 yb 3 _ rfl;have xb4:=box0 yb 4 _ rfl;clear ya yb;have q1:((n:Int) != (n2:Int))=true:=bne_iff_ne.2 (by omega);have HF:Hid (eqSch x y=false):=hJ (by rw [HN.out,eqList_len (by rw [HAX.out,HAY.out];omega)];rfl);go_enter func8,ntmps8
  go_wp2_with fail
  go_ret;exact ⟨by rw [HF.out];rfl,B0.out⟩
 subst hd;by_cases hd2:m=m2
 case neg =>
  obtain ⟨B0,ya,yb,hW0⟩:=box2 w 29 [.slice ap n cp,.string x.result.elem,.string x.result.shape.row,.slice at_ x.result.shape.dims.length ct,.slice aq m cq] 29 [.slice ap2 n cp2,.string y.result.elem,.string y.result.shape.row,.slice at2 y.result.shape.dims.length ct2,.slice aq2 m2 cq2];have xa0:=box0 ya 0 _ rfl;have xa1:=box0 ya 1 _ rfl;have xa2:=box0 ya 2 _ rfl;have xa3:=box0 ya 3 _ rfl;have xa4:=box0 ya 4 _ rfl;have xb0:=box0 yb 0 _ rfl;have xb1:=box0 yb 1 _ rfl;have xb2:=box0 yb 2 _ rfl;have xb3:=box0 yb 3 _ rfl;have xb4:=box0 yb 4 _ rfl;clear ya yb;have q1:((n:Int) != (n:Int))=false:=by simp
  have q2:((m:Int) != (m2:Int))=true:=bne_iff_ne.2 (by omega);have HF:Hid (eqSch x y=false):=hJ (by rw [HN.out,eqList_len (p:=kCN) (by rw [HL1.out,HL2.out];exact hd2),Bool.and_false]);go_enter func8,ntmps8
  go_wp2_with fail
  go_ret;exact ⟨by rw [HF.out];rfl,B0.out⟩
 subst hd2;obtain ⟨B0,ya,yb,hW0⟩:=box2 w 29 [.slice ap n cp,.string x.result.elem,.string x.result.shape.row,.slice at_ x.result.shape.dims.length ct,.slice aq m cq] 29 [.slice ap2 n cp2,.string y.result.elem,.string y.result.shape.row,.slice at2 y.result.shape.dims.length ct2,.slice aq2 m cq2];have xa0:=box0 ya 0 _ rfl;have xa1:=box0 ya 1 _ rfl;have xa2:=box0 ya 2 _ rfl;have xa3:=box0 ya 3 _ rfl;have xa4:=box0 ya 4 _ rfl;have xb0:=box0 yb 0 _ rfl;have xb1:=box0 yb 1 _ rfl;have xb2:=box0 yb 2 _ rfl;have xb3:=box0 yb 3 _ rfl;have xb4:=box0 yb 4 _ rfl;clear ya yb;have q1:((n:Int) != (n:Int))=false:=by simp
 have q2:((m:Int) != (m:Int))=false:=by simp
 go_enter func8,ntmps8
 go_wp2_with fail
 generalize ((w.alloc (.cells #[.slice ap n cp,.string x.result.elem,.string x.result.shape.row,.slice at_ x.result.shape.dims.length ct,.slice aq m cq] 29)).alloc (.cells #[.slice ap2 n cp2,.string y.result.elem,.string y.result.shape.row,.slice at2 y.result.shape.dims.length ct2,.slice aq2 m cq2] 29))=W at *
 have HCX:Hid (∀ W',Below W.heap.size W W'→Calls Tryz.prog 17 #[.agg #[.slice ap n cp,.string x.result.elem,.string x.result.shape.row,.slice at_ x.result.shape.dims.length ct,.slice aq m cq]] W' fun e w'=>(∃ a c,e= .returned (.slice a (allT x).length c)∧Sl RTyp All w' a (allT x).length c (allT x))∧Below W.heap.size W w'∧Below W'.heap.size W' w') :=
  hJ (fun W' hW'=>(HCX.out W' (B0.out.trans (hW'.mono B0.out.size))).mono fun e w' ⟨⟨v,he,ho⟩,hb⟩=>by
   obtain ⟨a,c,rfl,hs⟩:=ho.sl;exact ⟨⟨a,c,he,hs.all⟩,hW'.trans (hb.mono hW'.size),hb⟩)
 have HCY:Hid (∀ W',Below W.heap.size W W'→Calls Tryz.prog 17 #[.agg #[.slice ap2 n cp2,.string y.result.elem,.string y.result.shape.row,.slice at2 y.result.shape.dims.length ct2,.slice aq2 m cq2]] W' fun e w'=>(∃ a c,e= .returned (.slice a (allT y).length c)∧Sl RTyp All w' a (allT y).length c (allT y))∧Below W.heap.size W w'∧Below W'.heap.size W' w') :=
  hJ (fun W' hW'=>(HCY.out W' (B0.out.trans (hW'.mono B0.out.size))).mono fun e w' ⟨⟨v,he,ho⟩,hb⟩=>by
   obtain ⟨a,c,rfl,hs⟩:=ho.sl;exact ⟨⟨a,c,he,hs.all⟩,hW'.trans (hb.mono hW'.size),hb⟩)
 obtain ⟨N,hN⟩:∃ N,N=n+1:=⟨_,rfl⟩
 rw [HAX.out,← hN] at HCX;rw [HAY.out,← hN] at HCY;have hN2:N≤9223372036854775807:=by omega
 have HQ:=hJ (HQ0.out.below B0.out);have HQ2:=hJ (HQ20.out.below B0.out)
 go_region_with (first
  | (go_at_call_of 17 (Value.slice ap n cp)
     refine (HCX.out _ ?hw).mono ?_
     case hw=>(repeat (first | assumption | exact zB _ _ | exact Hid.out (by assumption) | refine kFX ?_ _ | refine kHS ?_))
     rintro e w1 ⟨⟨ax,cx,rfl,hslx⟩,hbx,hbx2⟩;have r0:=kAE xb0 _ hbx;have r1:=kAE xb1 _ hbx;have r2:=kAE xb2 _ hbx;have r3:=kAE xb3 _ hbx;have r4:=kAE xb4 _ hbx)
  | (go_at_call_of 17 (Value.slice ap2 n cp2)
     refine (HCY.out _ ?hw).mono ?_
     case hw=>(repeat (first | assumption | exact zB _ _ | exact Hid.out (by assumption) | refine kFX ?_ _ | refine kHS ?_))
     rintro e w2 ⟨⟨ay,cy,rfl,hsly⟩,hby,hby2⟩;have r0:=kAE xa0 _ hby;have r1:=kAE xa1 _ hby;have r2:=kAE xa2 _ hby;have r3:=kAE xa3 _ hby;have r4:=kAE xa4 _ hby))
 all_goals
  have HSX:=hJ (hslx.below hby2);have HSY:=hJ hsly;have HLX:Hid ((allT x).length=N):=hJ (by rw [HAX.out,hN]);have HLY:Hid ((allT y).length=N):=hJ (by rw [HAY.out,hN]);have g4:=kAE xa4 _ hby;have k4:=kAE xb4 _ hby;have HW2:=hJ hby;have HQ2:=hJ (HQ2.out.below hby);have HQ:=hJ (HQ.out.below hby);clear hslx hsly hbx hbx2 hby hby2 r0 r1 r2 r3 r4 xa0 xa1 xa2 xa3 xa4 xb0 xb1 xb2 xb3 xb4 HCX HCY
  go_wp2_with fail
  go_loopw [7] (fun i wr=>∃ k:Nat,k≤N∧i= .int .i64 k∧Hid (∀ j,j<k→kI6 ((allT x).getD j default) ((allT y).getD j default)=true)∧Below w2.heap.size w2 wr) (fun i _=>N - (intOf i).toNat)
  case atStart=>exact ⟨0,Nat.zero_le _,rfl,fun j hj=>absurd hj (by omega),zB _ _⟩
  case round =>
   obtain ⟨k,hk,rfl,HT,hB⟩:=hrel;by_cases hlt:k<N
   · obtain ⟨b,off,rfl,hbW,_⟩:=HSX.out.form k hlt
     obtain ⟨b2,off2,rfl,hbW2,_⟩:=HSY.out.form k hlt;obtain ⟨t,hr,hd,c0,c1,c2⟩:=(HSX.out.below hB).typ k hlt;obtain ⟨t2,hr2,hd2,d0,d1,d2⟩:=(HSY.out.below hB).typ k hlt;have HC:=hJ (fun t9:Later wr=>ref12_Equal (RTyp.below hr t9.b) (RTyp.below hr2 t9.b));have c0:=Later.cell c0;have c1:=Later.cell c1;have c2:=Later.cell c2;have d0:=Later.cell d0;have d1:=Later.cell d1;have d2:=Later.cell d2;have HBad:=hJ (fun q=>eqList_bad (p:=kI6) (l:=allT x) (l2:=allT y) (k:=k) (by rw [HLX.out];exact hlt) q);have HGo:=hJ (fun q=>upto HT.out (p:=fun j=>kI6 ((allT x).getD j default) ((allT y).getD j default)=true) q);clear hr hr2 hd hd2;generalize (allT x).getD k default=u at *;generalize (allT y).getD k default=u2 at *;generalize kI6 u u2=q at *;cases q with
     | true =>
       replace HGo:=hJ (HGo.out rfl)
       go_wp2_with fail
       refine kAC (by kernel_rfl) (by kernel_rfl) ?_
       repeat (go_big_quiet_step (first | fail | exact Later.call (HC.out _)))
       refine wpQuiet_nil ?_;rintro _ ⟨t9,rfl⟩
       go_wp2_with fail
       go_roundw
       case rel=>exact ⟨k+1,by omega,by go_num,HGo,hB.trans (t9.b.mono hB.size)⟩
       case measure=>simp [intOf];omega
     | false =>
       have HF:Hid (eqSch x y=false):=hJ (by rw [HN.out,HBad.out rfl];rfl)
       go_wp2_with fail
       refine kAC (by kernel_rfl) (by kernel_rfl) ?_
       repeat (go_big_quiet_step (first | fail | exact Later.call (HC.out _)))
       refine wpQuiet_nil ?_;rintro _ ⟨t9,rfl⟩
       go_wp2_with fail
       go_ret;exact ⟨by rw [HF.out];rfl,B0.out.trans ((HW2.out.trans ((hB.trans (t9.b.mono hB.size)).mono HW2.out.size)).mono B0.out.size)⟩
   · have HA:Hid (kBI kI6 (allT x) (allT y)=true):=hJ (eqList_good (by rw [HLX.out,HLY.out]) (fun j hj=>HT.out j (by rw [HLX.out] at hj;omega)))
     have HN2:Hid (eqSch x y=kBI kCN x.wh y.wh):=hJ (by rw [HN.out,HA.out];rfl);have hW3:=HW2.out.trans (hB.mono HW2.out.size);have g5:=kAE g4 _ hB;have k5:=kAE k4 _ hB;have HW3:=hJ hB;clear hW3 hB
     go_wp2_with fail
     go_loopw [8] (fun i wr=>∃ k:Nat,k≤m∧i= .int .i64 k∧Hid (∀ j,j<k→kCN (x.wh.getD j default) (y.wh.getD j default)=true)∧Below w2.heap.size w2 wr) (fun i _=>m - (intOf i).toNat)
     case atStart=>exact ⟨0,Nat.zero_le _,rfl,fun j hj=>absurd hj (by omega),HW3.out⟩
     case round =>
      obtain ⟨k,hk,rfl,HT,hB⟩:=hrel;have g6:=kAE g4 _ hB;have k6:=kAE k4 _ hB;by_cases hlt:k<m
      · obtain ⟨b,off,rfl,hbW,_⟩:=HQ.out.form k hlt
        obtain ⟨b2,off2,rfl,hbW2,_⟩:=HQ2.out.form k hlt;obtain ⟨t,hr,hd,c0,c1⟩:=(HQ.out.below hB).lin k hlt;obtain ⟨t2,hr2,hd2,d0,d1⟩:=(HQ2.out.below hB).lin k hlt;have HC:=hJ (fun t9:Later wr=>kF7 (RLin.below hr t9.b) (RLin.below hr2 t9.b));have g7:=Later.cell g6;have k7:=Later.cell k6;have c0:=Later.cell c0;have c1:=Later.cell c1;have d0:=Later.cell d0;have d1:=Later.cell d1;have HBad:=hJ (fun q=>eqList_bad (p:=kCN) (l:=x.wh) (l2:=y.wh) (k:=k) (by rw [HL1.out];exact hlt) q);have HGo:=hJ (fun q=>upto HT.out (p:=fun j=>kCN (x.wh.getD j default) (y.wh.getD j default)=true) q);clear hr hr2 hd hd2;generalize x.wh.getD k default=u at *;generalize y.wh.getD k default=u2 at *;generalize kCN u u2=q at *;cases q with
        | true =>
          replace HGo:=hJ (HGo.out rfl)
          go_wp2_with fail
          refine kAC (by kernel_rfl) (by kernel_rfl) ?_
          repeat (go_big_quiet_step (first | fail | exact Later.call (HC.out _)))
          refine wpQuiet_nil ?_;rintro _ ⟨t9,rfl⟩
          go_wp2_with fail
          go_roundw
          case rel=>exact ⟨k+1,by omega,by go_num,HGo,hB.trans (t9.b.mono hB.size)⟩
          case measure=>simp [intOf];omega
        | false =>
          have HF:Hid (eqSch x y=false):=hJ (by rw [HN2.out,HBad.out rfl])
          go_wp2_with fail
          refine kAC (by kernel_rfl) (by kernel_rfl) ?_
          repeat (go_big_quiet_step (first | fail | exact Later.call (HC.out _)))
          refine wpQuiet_nil ?_;rintro _ ⟨t9,rfl⟩
          go_wp2_with fail
          go_ret;exact ⟨by rw [HF.out];rfl,B0.out.trans ((HW2.out.trans ((hB.trans (t9.b.mono hB.size)).mono HW2.out.size)).mono B0.out.size)⟩
      · have HF:Hid (eqSch x y=true):=hJ (by rw [HN2.out];exact eqList_good (by rw [HL1.out,HL2.out]) (fun j hj=>HT.out j (by rw [HL1.out] at hj;omega)))
        go_wp2_with fail
        go_ret;exact ⟨by rw [HF.out];rfl,B0.out.trans ((HW2.out.trans (hB.mono HW2.out.size)).mono B0.out.size)⟩
theorem kGG {α :Type} {p: α →Bool} {l:List α} (h:(!l.any (fun x=> !p x))=true):∀ x ∈ l,p x=true:=by
 intro x hx;cases hp:p x with
 | true=>rfl
 | false =>
   have:l.any (fun x=> !p x)=true:=List.any_eq_true.2 ⟨x,hx,by rw [hp];rfl⟩;rw [this] at h;cases h
theorem few_lin {x:Lin} (h:kFU x=true):szL x:=by
 unfold kFU at h;rw [zA] at h;intro t ht;have:=kGG h.1 t ht;unfold fewC at this;have:=of_decide_eq_true this;omega
theorem few_shp {s:Shp} (h:kE3 s=true):szH s∧s.dims.length≤8:=by
 unfold kE3 at h;rw [zA,zA,decide_eq_true_eq,decide_eq_true_eq] at h;exact ⟨⟨by omega,fun x hx=>few_lin (kGG h.1 x hx)⟩,h.2.1⟩
theorem few_typ {t:Typ} (h:kFT t=true):szT t:=by
 unfold kFT at h;rw [zA,decide_eq_true_eq] at h;exact ⟨by omega,(few_shp h.2).1⟩
theorem few_sch {s:Sch} (h:kHX s=true) (hw:∀ y ∈ s.wh,szL y):szS s∧s.params.length≤13∧(kAI s=true→s.wh.length≤8):=by
 unfold kHX at h;rw [zA,zA,zA,Bool.or_eq_true,decide_eq_true_eq,decide_eq_true_eq,beq_iff_eq] at h;obtain ⟨h1,h2,h3,h4⟩:=h;have ha:=kGG h1;refine ⟨⟨fun t ht=>few_typ (ha t ?_),few_typ (ha _ ?_),hw⟩,h3,fun hv=>?_⟩
 · unfold allT;exact List.mem_append_left _ ht
 · unfold allT;exact List.mem_append_right _ (List.mem_singleton.2 rfl)
 · have:=(kAO hv).2.1
   omega
theorem canErr_valid {s:Sch} (h:kAI s=true):kDF s=0:=by
 unfold kDF kBT;rw [if_pos h];have:=kDE h;unfold canOk at this;rw [if_pos this]
theorem canErr_not {s:Sch} (h:kAI s=false):kDF s=1:=by unfold kDF;rw [h];rfl
theorem can_is {s:Sch} (h:kAI s=true):kAI (can s)=true∧(can s).wh.length≤s.wh.length∧(can s).params.length=s.params.length:=by
 have e:can s=canR s:=by unfold can;rw [if_pos (kDE h)]
 rw [e];refine ⟨can_valid (kDE h),?_,?_⟩
 · show (tidy _).length≤_
   refine zE (tidy_len _) ?_;rw [List.length_map];exact zR _
 · show (s.params.map _).length=_
   rw [List.length_map]
theorem can_plen (s:Sch) (h:s.params.length≤1000000):(can s).params.length≤1000000:=by
 cases hv:kAI s with
 | true=>rw [(can_is hv).2.2];exact h
 | false=>rw [(can_no hv).2];exact (by decide:(0:Nat)≤1000000)
theorem nine_law {s:Sch} (hv:kAI s=true):nineB s=false∨(nineB s=true∧kDF (can s)=0∧can (can s)=can s):=by
 cases h:nineB s with
 | false=>exact .inl rfl
 | true=>exact .inr ⟨rfl,(can_again hv h).2,(can_again hv h).1⟩
theorem lead_next {l:List Bnd} {k:Nat} (hk:k<l.length):lead (l.take (k+1))=if kC8 (l.getD k default) then lead (l.take k)++[kI3 (l.getD k default)] else lead (l.take k):=by
 unfold lead;rw [kAU hk,List.filter_append,List.filter_cons,List.filter_nil,List.map_append];cases kC8 (l.getD k default) with
 | true=>rfl
 | false=>exact List.append_nil _
theorem lead_len (l:List Bnd):(lead l).length≤l.length:=by
 unfold lead;rw [List.length_map];exact List.length_filter_le _ _
theorem lead_from {l:List Bnd} (hl:InvV l) {x:Bnd} (hx:x ∈ l) (h:x.kind=3∨0≤kAW (lead l) x.kind x.v):(x.kind==3 || kC8 x)=true:=by
 rcases h with h | h
 · rw [h];rfl
 · have ha:Has (lead l) x.kind x.v:=by
    unfold Has;cases q:(lead l).any (isB x.kind x.v) with
    | true=>rfl
    | false=>have:=kCU.2 q;omega
   obtain ⟨y,hy,h1,h2⟩:=kC9.1 ha;obtain ⟨z,hz,hok,⟨q1,q2⟩ | ⟨q1,q2⟩⟩:=kGB hl hy
   · have e1:z.kind=x.kind:=by rw [q1,← h1,q2]
     have e2:z.v=x.v:=by rw [← h2,q2]
     unfold kC8 at hok ⊢;rw [e1,e2] at hok;rw [hok,Bool.or_true]
   · have e1:z.kind=x.kind:=by rw [q1,← h1,q2]
     have e2:z.v=x.v:=by rw [← h2,q2]
     unfold kC8 at hok ⊢;rw [e1,e2] at hok;rw [hok,Bool.or_true]
theorem lead_all {l:List Bnd} (hl:InvV l) (h:∀ j,j<l.length→(l.getD j default).kind=3∨0≤kAW (lead l) (l.getD j default).kind (l.getD j default).v):kGC l=true:=by
 unfold kGC;rw [List.all_eq_true];intro x hx;obtain ⟨j,hj,rfl⟩:=List.getElem_of_mem hx;have e:l[j]=l.getD j default:=by rw [zD,zG hj];rfl
 exact lead_from hl hx (by rw [e];exact h j hj)
theorem name_pos {v:Str} (h:kAZ v=true):0<v.size:=by
 unfold kAZ at h
 split at h
 · rw [zA,decide_eq_true_eq] at h;omega
 · rw [zA,decide_eq_true_eq] at h;omega
theorem law12_Canonical {S:Blk} {s:Sch} {cs:List Value} {w:World} (h:RSch.rd S w cs s) (hb:bigS s) (hw:∀ y ∈ s.wh,szL y) (E:EnvM w) :
 Calls Tryz.prog 3 #[.agg cs.toArray] w fun e w'=>e= .returned (.bool true)∧Below w.heap.size w w':=by
 have HE:=hJ (fun (W:World) (hW:Below w.heap.size w W)=>E.below hW);have HF:=hJ (fun (W:World) (hW:Below w.heap.size w W)=>ref12_Few (RSch.below h hW) hb);have HA:=hJ (fun (W:World) (hW:Below w.heap.size w W)=>law12_awake W (E.below hW));have HZ:=hJ (fun (q:kHX s=true)=>few_sch q hw);have HR:=hJ h;obtain ⟨_,_,_,rfl,⟨a3,c3,rfl,_⟩,⟨b3,d3,rfl,_⟩,⟨o3,k3,rfl,_⟩⟩:=h;clear hb hw E;obtain ⟨B0,ya,hW0⟩:=box1 w 29 [.slice a3 s.params.length c3,.string s.result.elem,.string s.result.shape.row,.slice b3 s.result.shape.dims.length d3,.slice o3 s.wh.length k3];have xa0:=box0 ya 0 _ rfl;have xa1:=box0 ya 1 _ rfl;have xa2:=box0 ya 2 _ rfl;have xa3:=box0 ya 3 _ rfl;have xa4:=box0 ya 4 _ rfl;have bka:Bx _ _ _ _:=ya;clear ya;have HS:=hJ bka;clear bka xa0 xa1 xa2 xa3 xa4;go_enter func3,ntmps3
 go_wp2_with fail
 refine (HA.out _ B0.out).mono ?_;rintro e w1 ⟨rfl,hb1⟩;have HW1:=hJ (B0.out.trans (hb1.mono B0.out.size));have HS1:=hJ (HS.out.below hb1 HS.out.lt);clear hb1 HS B0;have s0:=HS1.out.cell 0 _ rfl;have s1:=HS1.out.cell 1 _ rfl;have s2:=HS1.out.cell 2 _ rfl;have s3:=HS1.out.cell 3 _ rfl;have s4:=HS1.out.cell 4 _ rfl;have HC:=hJ (HF.out w1 HW1.out);cases hf:kHX s with
 | false =>
   rw [hf] at HC
   go_wp2_with fail
   refine (HC.out).mono ?_;rintro e w8 ⟨rfl,hb8⟩;have HW8:=hJ (HW1.out.trans (hb8.mono HW1.out.size));clear hb8
   go_wp2_with fail
   refine (HA.out _ HW8.out).mono ?_;rintro e w9 ⟨rfl,hb9⟩;have HW9:=hJ (HW8.out.trans (hb9.mono HW8.out.size));clear hb9
   go_wp2_with fail
   go_ret;exact ⟨rfl,HW9.out⟩
 | true =>
 rw [hf] at HC
 go_wp2_with fail
 refine (HC.out).mono ?_;rintro e w2 ⟨rfl,hb2⟩;have HW2:=hJ (HW1.out.trans (hb2.mono HW1.out.size));clear s0 s1 s2 s3 s4;have HS2:=hJ (HS1.out.below hb2 HS1.out.lt);have HSz:=hJ (HZ.out hf);clear hb2 HC HS1 HW1 HF HA HZ hf;have s0:=HS2.out.cell 0 _ rfl;have s1:=HS2.out.cell 1 _ rfl;have s2:=HS2.out.cell 2 _ rfl;have s3:=HS2.out.cell 3 _ rfl;have s4:=HS2.out.cell 4 _ rfl;have HC1:=hJ (fun (W:World) (hW:Below w.heap.size w W)=>kC5 (RSch.below HR.out hW) HSz.out.1 (fun q=>zE (HSz.out.2.2 q) (by decide)) (HE.out W hW).env);have HC2:=hJ (fun (W:World) (hW:Below w.heap.size w W)=>ref12_Canonical (RSch.below HR.out hW) HSz.out.1 (zE HSz.out.2.1 (by decide)) (fun q=>zE (HSz.out.2.2 q) (by decide)));have HC9:=hJ (fun (q:kAI s=true) (W:World) (hW:Below w.heap.size w W)=>law12_nine (RSch.below HR.out hW) q);have HCV:=hJ (fun (q:kAI s=true) (W:World) (hW:Below w.heap.size w W)=>kHI (RSch.below HR.out hW) q);have HCS:=hJ (fun (q:kAI s=true) (W:World) (hW:Below w.heap.size w W) (T:Blk) (a:Option Addr) (nb cb:Nat) (hbs:Sl RBnd T W a nb cb (lead (kAG s)))=>kFF (RSch.below HR.out hW) q (lead (kAG s)) a nb cb hbs (lead_valid (kA5 q)) (HE.out W hW).env);have HAl:=hJ (can_plen s (zE HSz.out.2.1 (by decide)));have HEq:=hJ ((eqSch_iff (can s) (can s)).2 rfl)
 go_wp2_with fail
 refine (HC1.out _ HW2.out).mono ?_;rintro e w3 ⟨⟨ds3,rfl,h⟩,hb⟩;obtain ⟨_,_,_,rfl,⟨pA,qA,rfl,_⟩,⟨rA,tA,rfl,_⟩,⟨uA,vA,rfl,_⟩⟩:=id h;have HRa:=hJ (RSch.mono h (fun _ _ _=>(trivial:All _)));have HWa:=hJ (HW2.out.trans (hb.mono HW2.out.size));have HSa:=hJ (HS2.out.below hb HS2.out.lt);clear h hb HS2 HW2 HC1;clear s0 s1 s2 s3 s4;obtain ⟨HB3,hy,hz3⟩:=box1 w3 29 [.slice pA (can s).params.length qA,.string (can s).result.elem,.string (can s).result.shape.row,.slice rA (can s).result.shape.dims.length tA,.slice uA (can s).wh.length vA];have HPA:Hid (Bx _ _ _ _):=hJ hy;have HRA:=hJ (RSch.below HRa.out HB3.out);have HW3:=hJ (HWa.out.trans (HB3.out.mono HWa.out.size));have HS3:=hJ (HSa.out.below HB3.out HSa.out.lt);clear HB3 hy HRa HWa HSa;have s0:=HS3.out.cell 0 _ rfl;have s1:=HS3.out.cell 1 _ rfl;have s2:=HS3.out.cell 2 _ rfl;have s3:=HS3.out.cell 3 _ rfl;have s4:=HS3.out.cell 4 _ rfl
 go_wp2_with fail
 refine (HC2.out _ HW3.out).mono ?_;rintro e w4 ⟨⟨ds4,rfl,h⟩,hb⟩;obtain ⟨_,_,_,rfl,⟨pB,qB,rfl,_⟩,⟨rB,tB,rfl,_⟩,⟨uB,vB,rfl,_⟩⟩:=id h;have HRb:=hJ (RSch.mono h (fun _ _ _=>(trivial:All _)));have HWa:=hJ (HW3.out.trans (hb.mono HW3.out.size));have HSa:=hJ (HS3.out.below hb HS3.out.lt);have HPAa:=hJ (HPA.out.below hb HPA.out.lt);have HRAa:=hJ (RSch.below HRA.out hb);have hl3:=hb.size;rw [hz3] at hl3;clear h hb HS3 HW3 HC2 HPA HRA;clear s0 s1 s2 s3 s4;obtain ⟨HB4,hy,hz4⟩:=box1 w4 29 [.slice pB (can s).params.length qB,.string (can s).result.elem,.string (can s).result.shape.row,.slice rB (can s).result.shape.dims.length tB,.slice uB (can s).wh.length vB];have HPB:Hid (Bx _ _ _ _):=hJ hy;have HRB:=hJ (RSch.below HRb.out HB4.out);have HW4:=hJ (HWa.out.trans (HB4.out.mono HWa.out.size));have HS4:=hJ (HSa.out.below HB4.out HSa.out.lt);have HPA4:=hJ (HPAa.out.below HB4.out HPAa.out.lt);have HRA4:=hJ (RSch.below HRAa.out HB4.out);clear HB4 hy HRb HWa HSa HPAa HRAa;have p0:=HPA4.out.cell 0 _ rfl;have p1:=HPA4.out.cell 1 _ rfl;have p2:=HPA4.out.cell 2 _ rfl;have p3:=HPA4.out.cell 3 _ rfl;have p4:=HPA4.out.cell 4 _ rfl;have q0:=HPB.out.cell 0 _ rfl;have q1:=HPB.out.cell 1 _ rfl;have q2:=HPB.out.cell 2 _ rfl;have q3:=HPB.out.cell 3 _ rfl;have q4:=HPB.out.cell 4 _ rfl;have HE1:=hJ (HEq.out ▸ kDK HRA4.out HRB.out HAl.out HAl.out)
 go_wp2_with fail
 refine (HE1.out).mono ?_;rintro e w5 ⟨rfl,hb5⟩;clear p0 p1 p2 p3 p4;clear q0 q1 q2 q3 q4;have HW5:=hJ (HW4.out.trans (hb5.mono HW4.out.size));have HS5:=hJ (HS4.out.below hb5 HS4.out.lt);have HPA5:=hJ (HPA4.out.below hb5 HPA4.out.lt);have HRA5:=hJ (RSch.below HRA4.out hb5);have hl4:=hb5.size;rw [hz4] at hl4;clear hb5 HE1 HS4 HW4 HPA4 HRA4 HPB HRB;cases hv:kAI s with
 | false =>
   rw [canErr_not hv] at *
   go_wp2_with fail
   go_ret;exact ⟨rfl,HW5.out⟩
 | true =>
 have hce:=canErr_valid hv;rw [hce];have HV:=hJ hv;have HCa:=hJ (can_is hv);have HNl:=hJ (nine_law hv);replace HC9:=hJ (HC9.out hv);replace HCV:=hJ (HCV.out hv);replace HCS:=hJ (HCS.out hv);clear hv hce;have p0:=HPA5.out.cell 0 _ rfl;have p1:=HPA5.out.cell 1 _ rfl;have p2:=HPA5.out.cell 2 _ rfl;have p3:=HPA5.out.cell 3 _ rfl;have p4:=HPA5.out.cell 4 _ rfl;have s0:=HS5.out.cell 0 _ rfl;have s1:=HS5.out.cell 1 _ rfl;have s2:=HS5.out.cell 2 _ rfl;have s3:=HS5.out.cell 3 _ rfl;have s4:=HS5.out.cell 4 _ rfl;have HC3:=hJ (kC5 HRA5.out (kGS HCa.out.1) (fun _=>zE HCa.out.2.1 (zE (HSz.out.2.2 HV.out) (by decide))) (HE.out _ HW5.out).env);have HGl:=hJ (can_plen (can s) HAl.out)
 go_wp2_with fail
 refine HC3.out.mono ?_;rintro e w6 ⟨⟨ds6,rfl,h⟩,hb⟩;obtain ⟨_,_,_,rfl,⟨pG,qG,rfl,_⟩,⟨rG,tG,rfl,_⟩,⟨uG,vG,rfl,_⟩⟩:=id h;have HRg:=hJ (RSch.mono h (fun _ _ _=>(trivial:All _)));have HWa:=hJ (HW5.out.trans (hb.mono HW5.out.size));have HSa:=hJ (HS5.out.below hb HS5.out.lt);have HPAa:=hJ (HPA5.out.below hb HPA5.out.lt);have HRAa:=hJ (RSch.below HRA5.out hb);have hl5:=hb.size;clear h hb HS5 HW5 HC3 HPA5 HRA5;clear p0 p1 p2 p3 p4;clear s0 s1 s2 s3 s4;generalize can (can s)=G at *;generalize kDF (can s)=eg at *;obtain ⟨HB6,hy,hz6⟩:=box1 w6 29 [.slice pG G.params.length qG,.string G.result.elem,.string G.result.shape.row,.slice rG G.result.shape.dims.length tG,.slice uG G.wh.length vG];have HPG:Hid (Bx _ _ _ _):=hJ hy;have HRG:=hJ (RSch.below HRg.out HB6.out);have HW6:=hJ (HWa.out.trans (HB6.out.mono HWa.out.size));have HS6:=hJ (HSa.out.below HB6.out HSa.out.lt);have HPA6:=hJ (HPAa.out.below HB6.out HPAa.out.lt);have HRA6:=hJ (RSch.below HRAa.out HB6.out);clear HB6 hy HRg HWa HSa HPAa HRAa hz6
 go_upto_region 10 with fail
 generalize (w6.alloc (.cells #[.slice pG G.params.length qG,.string G.result.elem,.string G.result.shape.row,.slice rG G.result.shape.dims.length tG,.slice uG G.wh.length vG] 29))=W6 at *;have s0:=HS6.out.cell 0 _ rfl;have s1:=HS6.out.cell 1 _ rfl;have s2:=HS6.out.cell 2 _ rfl;have s3:=HS6.out.cell 3 _ rfl;have s4:=HS6.out.cell 4 _ rfl;have p0:=HPA6.out.cell 0 _ rfl;have p1:=HPA6.out.cell 1 _ rfl;have p2:=HPA6.out.cell 2 _ rfl;have p3:=HPA6.out.cell 3 _ rfl;have p4:=HPA6.out.cell 4 _ rfl;have g0:=HPG.out.cell 0 _ rfl;have g1:=HPG.out.cell 1 _ rfl;have g2:=HPG.out.cell 2 _ rfl;have g3:=HPG.out.cell 3 _ rfl;have g4:=HPG.out.cell 4 _ rfl;have HN9:=hJ (HC9.out _ HW6.out)
 go_cut [64] (fun v W=>v= .bool false∧Hid (Below W6.heap.size W6 W))
 case first =>
  have hn:=HNl.out;clear HNl HCS HCV HC9 HSz HE;rcases hn with hn | ⟨hn,rfl,hG⟩
  · rw [hn] at HN9
    clear hn
    go_wp2_with fail
    refine (HN9.out).mono ?_;rintro e w7 ⟨rfl,hb7⟩
    go_wp2_with fail
    go_meet
    exact ⟨rfl,hJ hb7⟩
  · rw [hn] at HN9
    have HEG:Hid (eqSch G (can s)=true):=hJ ((eqSch_iff _ _).2 hG);clear hn hG
    go_wp2_with fail
    refine (HN9.out).mono ?_;rintro e w7 ⟨rfl,hb7⟩;have k0:=kAE g0 _ hb7;have k1:=kAE g1 _ hb7;have k2:=kAE g2 _ hb7;have k3:=kAE g3 _ hb7;have k4:=kAE g4 _ hb7;have m0:=kAE p0 _ hb7;have m1:=kAE p1 _ hb7;have m2:=kAE p2 _ hb7;have m3:=kAE p3 _ hb7;have m4:=kAE p4 _ hb7;have HE3:=hJ (HEG.out ▸ kDK (RSch.below HRG.out hb7) (RSch.below HRA6.out hb7) HGl.out HAl.out);clear p0 p1 p2 p3 p4 g0 g1 g2 g3 g4 s0 s1 s2 s3 s4
    go_wp2_with fail
    refine (HE3.out).mono ?_;rintro e w8 ⟨rfl,hb8⟩
    go_wp2_with fail
    go_meet
    exact ⟨rfl,hJ (hb7.trans (hb8.mono hb7.size))⟩
 case rest =>
 rename World=>w7
 obtain ⟨rfl,hbr⟩:=hcut;have HW7:=hJ (HW6.out.trans (hbr.out.mono HW6.out.size));have HS7:=hJ (HS6.out.below hbr.out HS6.out.lt);have HPA7:=hJ (HPA6.out.below hbr.out HPA6.out.lt);have HRA7:=hJ (RSch.below HRA6.out hbr.out);clear hbr HW6 HS6 HPA6 HRA6 HPG HRG HN9 HNl HGl HC9 s0 s1 s2 s3 s4 p0 p1 p2 p3 p4 g0 g1 g2 g3 g4;have s0:=HS7.out.cell 0 _ rfl;have s1:=HS7.out.cell 1 _ rfl;have s2:=HS7.out.cell 2 _ rfl;have s3:=HS7.out.cell 3 _ rfl;have s4:=HS7.out.cell 4 _ rfl;have HInv:=hJ (kA5 HV.out);have HLen:=hJ (kB3 (s:=s));have HLe:=hJ (fun q=>can_lead (s:=s) HV.out q);have HLo:=hJ (fun q=>lead_ok (s:=s) HV.out q)
 go_wp2_with fail
 refine (HCV.out _ HW7.out).mono ?_;rintro e w8 ⟨⟨v8,rfl,hown⟩,hb⟩;obtain ⟨av,cv,rfl,hsv⟩:=hown.sl;have HVs:=hJ hsv.all;have HW8:=hJ (HW7.out.trans (hb.mono HW7.out.size));have HS8:=hJ (HS7.out.below hb HS7.out.lt);have HPA8:=hJ (HPA7.out.below hb HPA7.out.lt);have HRA8:=hJ (RSch.below HRA7.out hb);clear hown hsv hb HS7 HW7 HPA7 HRA7 s0 s1 s2 s3 s4;generalize kAG s=L at *;have hn1:=HVs.out.small;have hn3:L.length≤3000:=HLen.out
 go_wp2_with fail
 go_loopg [9,68] (L.length+1) (fun gk v9 i wi=>∃ k:Nat,k+gk=L.length+1∧k≤L.length∧i= .int .i64 k∧Hid (Own RBnd 42 (fun q=>w8.heap.size≤q) wi w8.heap.size v9 (lead (L.take k)))∧Below w8.heap.size w8 wi)
 case atStart=>exact ⟨0,by omega,Nat.zero_le _,rfl,hJ (by rw [List.take_zero];exact Own.nil _ _ _ _ _),zB _ _⟩
 case round =>
 rename World=>wi
 obtain ⟨k,hkg,hk,rfl,HO,hB2⟩:=hrel;by_cases hlt:k<L.length
 · obtain ⟨bl,ol,rfl,hbl,_⟩:=HVs.out.form k hlt
   obtain ⟨t,d,hr,⟨⟨ta,tc,rfl,hta⟩,⟨da,dc,rfl,hda⟩⟩,e0,e1,e2,e3,e4,e5,e6⟩:=(HVs.out.below hB2).bnd k hlt;have HGood:=hJ (HInv.out.good _ (kAM hlt));have HNext:=hJ (lead_next hlt);have HLl:=hJ (lead_len (L.take k));rw [zN] at HLl;obtain ⟨kd,nv,hx⟩:∃ kd nv,L.getD k default=⟨kd,nv,⟨0,[]⟩,⟨⟨#[]⟩,[]⟩,⟨#[]⟩⟩:=⟨_,_,HGood.out.1⟩
   rw [hx] at HGood HNext;simp only [hx,List.length_nil] at e0 e1 e2 e3 e4 e5 e6;have hok:=HGood.out.2;have HTa:Hid (tc≤maxLen∧(ta=none→tc=0)):=hJ ⟨hta.max,hta.nil⟩;have HDa:Hid (dc≤maxLen∧(da=none→dc=0)):=hJ ⟨hda.max,hda.nil⟩;clear hx hr HGood hta hda HCV HCS HLe HLo HW8 HS8 HPA8 HRA8 HInv HSz HCa HAl HEq HE HR HV;obtain ⟨HB0,hy0,hs0⟩:=box1 wi 42 [.int .i64 kd,.string nv,.int .i64 0,.slice ta 0 tc,.string ⟨#[]⟩,.slice da 0 dc,.string ⟨#[]⟩];have HP:Hid (Bx _ _ _ _):=hJ hy0;have HO0:=hJ (HO.out.cut.below HB0.out);have HNw:=hJ (fun (q:Nat) e=>(HO.out.block (k:=q) e).2);have HBa:=hJ (hB2.trans (HB0.out.mono hB2.size));have HS0:Hid ((wi.alloc (.cells #[.int .i64 kd,.string nv,.int .i64 0,.slice ta 0 tc,.string ⟨#[]⟩,.slice da 0 dc,.string ⟨#[]⟩] 42)).heap.size=wi.heap.size+1∧w8.heap.size≤wi.heap.size):=hJ ⟨hs0,hB2.size⟩;clear hy0 HB0 HO hs0
   go_upto_region 16 with fail
   generalize (wi.alloc (.cells #[.int .i64 kd,.string nv,.int .i64 0,.slice ta 0 tc,.string ⟨#[]⟩,.slice da 0 dc,.string ⟨#[]⟩] 42))=WA at *;clear e0 e1 e2 e3 e4 e5 e6;generalize (lead (L.take k))=lk at *;have p0:=HP.out.cell 0 _ rfl;have p1:=HP.out.cell 1 _ rfl;have p2:=HP.out.cell 2 _ rfl;have p3:=HP.out.cell 3 _ rfl;have p4:=HP.out.cell 4 _ rfl;have p5:=HP.out.cell 5 _ rfl;have p6:=HP.out.cell 6 _ rfl;have HOk0:Hid (kC8 ⟨kd,nv,⟨0,[]⟩,⟨⟨#[]⟩,[]⟩,⟨#[]⟩⟩=(kd != 3 && (decide (nv.size≤25) && decide (bt nv 0≠95)))):=hJ rfl;by_cases h3:kd=3
   · subst h3
     have hno:kC8 ⟨3,nv,⟨0,[]⟩,⟨⟨#[]⟩,[]⟩,⟨#[]⟩⟩=false:=rfl;clear hok HOk0;have HOn:Hid (Own RBnd 42 (fun q=>w8.heap.size≤q) WA w8.heap.size u9 (lead (L.take (k+1)))):=hJ (by rw [HNext.out,if_neg (by rw [hno];decide)];exact HO0.out.mono (fun q hq _=>hq.1));clear HNext HO0 HNw
     go_wp2_with fail
     go_roundg (gk - 1)
     case measure=>omega
     case rel=>exact ⟨k+1,by omega,by omega,by go_num,HOn,HBa.out⟩
   · have q3:(kd==3)=false:=beq_eq_false_iff_ne.2 h3
     have q3n:(kd != 3)=true:=by rw [bne,q3];rfl
     have hnm:kAZ nv=true:=by
      rcases hok with h | h | h
      · exact h.2
      · exact h.2
      · exact absurd h.1 h3
     by_cases h25:nv.size≤25
     · have hp0:0<nv.size:=name_pos hnm
       have g0:=kD5 nv 0 hp0;have q25:decide (25<(nv.size:Int))=false:=decide_eq_false (by omega);by_cases h95:bt nv 0=95
       · have q95:(bt nv 0==95)=true:=beq_iff_eq.2 h95
         have hno:kC8 ⟨kd,nv,⟨0,[]⟩,⟨⟨#[]⟩,[]⟩,⟨#[]⟩⟩=false:=by rw [HOk0.out,h95,q3n,decide_eq_true h25];rfl
         clear hok HOk0 hnm q3n h95;have HOn:Hid (Own RBnd 42 (fun q=>w8.heap.size≤q) WA w8.heap.size u9 (lead (L.take (k+1)))):=hJ (by rw [HNext.out,if_neg (by rw [hno];decide)];exact HO0.out.mono (fun q hq _=>hq.1));clear HNext HO0 HNw
         go_wp2_with fail
         go_roundg (gk - 1)
         case measure=>omega
         case rel=>exact ⟨k+1,by omega,by omega,by go_num,HOn,HBa.out⟩
       · have q95:(bt nv 0==95)=false:=beq_eq_false_iff_ne.2 h95
         have HNx:Hid (lead (L.take (k+1))=lk++[kI3 ⟨kd,nv,⟨0,[]⟩,⟨⟨#[]⟩,[]⟩,⟨#[]⟩⟩]):=hJ (by rw [HNext.out,if_pos (by rw [HOk0.out,q3n,decide_eq_true h25,decide_eq_true h95];rfl)]);clear HNext HOk0 hnm q3n h95;obtain ⟨a0,m0,c0,rfl⟩:=HO0.out.shape;rcases hok with ⟨hok,-⟩ | ⟨hok,-⟩ | ⟨hok,-⟩
         · subst hok
           have HPc:=hJ (HP.out.alloc (.cells #[.string ((⟨#[120]⟩:Str)++nv),.int .i64 1] 44));have vc2:=HPc.out.fz 2;have c2:=HPc.out.cell 2 _ rfl;have HPd1:=hJ (HPc.out.set 2 (.int .i64 0));have vd3:=HPd1.out.fz 3;have d3:=HPd1.out.cell 3 _ rfl;have HPd:=hJ (HPd1.out.set 3 (.slice (some ⟨WA.heap.size,0,none⟩) 1 1));have HC0:=hJ (((Bx.fresh WA 44 [.string ((⟨#[120]⟩:Str)++nv),.int .i64 1]).other (a:=⟨wi.heap.size,2,none⟩) (u:=.int .i64 0) (by have:=HS0.out;show wi.heap.size≠_;omega)).other (a:=⟨wi.heap.size,3,none⟩) (u:=.slice (some ⟨WA.heap.size,0,none⟩) 1 1) (by have:=HS0.out;show wi.heap.size≠_;omega));have HKd:Hid (∀ q,q<wi.heap.size→(((WA.alloc (.cells #[.string ((⟨#[120]⟩:Str)++nv),.int .i64 1] 44)).setCell ⟨wi.heap.size,2,none⟩ (.int .i64 0)).setCell ⟨wi.heap.size,3,none⟩ (.slice (some ⟨WA.heap.size,0,none⟩) 1 1)).heap[q]? =WA.heap[q]?):=hJ (fun q hq=>(kAA (by show wi.heap.size≠q;omega)).trans ((kAA (by show wi.heap.size≠q;omega)).trans (Below.heap_alloc _ _ _ (by have:=HS0.out;omega))));have HBd:Hid (Below w8.heap.size w8 (((WA.alloc (.cells #[.string ((⟨#[120]⟩:Str)++nv),.int .i64 1] 44)).setCell ⟨wi.heap.size,2,none⟩ (.int .i64 0)).setCell ⟨wi.heap.size,3,none⟩ (.slice (some ⟨WA.heap.size,0,none⟩) 1 1))):=hJ (((HBa.out.alloc HBa.out.size _).setCell (by have:=HS0.out;show w8.heap.size≤wi.heap.size;omega) _).setCell (by have:=HS0.out;show w8.heap.size≤wi.heap.size;omega) _)
           have HRY:Hid (RBnd.rd (fun q=>w8.heap.size≤q∧(Value.slice a0 m0 c0).ownBlock≠some q) (((WA.alloc (.cells #[.string ((⟨#[120]⟩:Str)++nv),.int .i64 1] 44)).setCell ⟨wi.heap.size,2,none⟩ (.int .i64 0)).setCell ⟨wi.heap.size,3,none⟩ (.slice (some ⟨WA.heap.size,0,none⟩) 1 1)) [.int .i64 1,.string nv,.int .i64 0,.slice (some ⟨WA.heap.size,0,none⟩) 1 1,.string ⟨#[]⟩,.slice da 0 dc,.string ⟨#[]⟩] (kI3 ⟨1,nv,⟨0,[]⟩,⟨⟨#[]⟩,[]⟩,⟨#[]⟩⟩)):=hJ
            ⟨_,_,rfl,⟨_,1,rfl,Sl.single (cs:=[.string ((⟨#[120]⟩:Str)++nv),.int .i64 1]) HC0.out rfl ⟨by have:=HS0.out;omega,fun e=>by have:=HNw.out _ e;have:=HS0.out;omega⟩⟩,⟨da,dc,rfl,Sl.zero HDa.out.1 HDa.out.2⟩⟩
           have q0:=HPd.out.cell 0 _ rfl;have q1:=HPd.out.cell 1 _ rfl;have q2:=HPd.out.cell 2 _ rfl;have q3:=HPd.out.cell 3 _ rfl;have q4:=HPd.out.cell 4 _ rfl;have q5:=HPd.out.cell 5 _ rfl;have q6:=HPd.out.cell 6 _ rfl;have HOd:Hid (Own RBnd 42 (fun q=>w8.heap.size≤q) (((WA.alloc (.cells #[.string ((⟨#[120]⟩:Str)++nv),.int .i64 1] 44)).setCell ⟨wi.heap.size,2,none⟩ (.int .i64 0)).setCell ⟨wi.heap.size,3,none⟩ (.slice (some ⟨WA.heap.size,0,none⟩) 1 1)) w8.heap.size (.slice a0 m0 c0) lk):=hJ ((HO0.out.frame (w':=(((WA.alloc (.cells #[.string ((⟨#[120]⟩:Str)++nv),.int .i64 1] 44)).setCell ⟨wi.heap.size,2,none⟩ (.int .i64 0)).setCell ⟨wi.heap.size,3,none⟩ (.slice (some ⟨WA.heap.size,0,none⟩) 1 1))) (fun q hq hs=>HKd.out q (by rcases hs with hs | hs;exact hs.2;exact HNw.out q hs)) (by have:=HS0.out;simp <;> omega)).mono (fun q hq _=>hq.1));have hzd:w8.heap.size<(((WA.alloc (.cells #[.string ((⟨#[120]⟩:Str)++nv),.int .i64 1] 44)).setCell ⟨wi.heap.size,2,none⟩ (.int .i64 0)).setCell ⟨wi.heap.size,3,none⟩ (.slice (some ⟨WA.heap.size,0,none⟩) 1 1)).heap.size:=by have:=HS0.out;simp <;> omega
           have HZd:=hJ hzd;clear hzd HO0
           go_wp2_with (at_builtin;refine kA1 kCS rfl _ _ rfl w8.heap.size _ _ rfl (HOd.out.alloc _) _ _ [.int .i64 1,.string nv,.int .i64 0,.slice (some ⟨WA.heap.size,0,none⟩) 1 1,.string ⟨#[]⟩,.slice da 0 dc,.string ⟨#[]⟩] rfl (RBnd.below HRY.out ((zB _ _).alloc (zR _) _)) (kA3 42 (by (simp only [kAJ,kAF,Array.getElem?_push,Array.size_push];simp))) (by have:=HLl.out;omega) (by have:=HLl.out;unfold maxLen;omega) (by have:=HZd.out;simp at this ⊢;omega) ?_;intro v9 w9 hown9 hb9 hk9;obtain ⟨a9,m9,c9,rfl⟩:=hown9.shape)
           have HB9:Hid (Below w8.heap.size w8 w9):=hJ ((HBd.out.alloc HBd.out.size _).trans (hb9.mono (zR _)));have HO9:=hJ hown9;clear hown9 hb9 hk9
           go_roundg (gk - 1)
           case measure=>omega
           case rel=>exact ⟨k+1,by omega,by omega,by go_num,hJ (by rw [HNx.out];exact HO9.out),HB9.out⟩
         · subst hok
           have vc4:=HP.out.fz 4;have HPd1:=hJ (HP.out.set 4 (.string (((⟨#[120]⟩:Str)++nv))));have vd5:=HPd1.out.fz 5;have d5:=HPd1.out.cell 5 _ rfl;have HPd:=hJ (HPd1.out.set 5 (.slice none 0 0));have HKd:Hid (∀ q,q<wi.heap.size→((WA.setCell ⟨wi.heap.size,4,none⟩ (.string (((⟨#[120]⟩:Str)++nv)))).setCell ⟨wi.heap.size,5,none⟩ (.slice none 0 0)).heap[q]? =WA.heap[q]?):=hJ (fun q hq=>(kAA (by show wi.heap.size≠q;omega)).trans (kAA (by show wi.heap.size≠q;omega)));have HBd:Hid (Below w8.heap.size w8 ((WA.setCell ⟨wi.heap.size,4,none⟩ (.string (((⟨#[120]⟩:Str)++nv)))).setCell ⟨wi.heap.size,5,none⟩ (.slice none 0 0))):=hJ ((HBa.out.setCell (by have:=HS0.out;show w8.heap.size≤wi.heap.size;omega) _).setCell (by have:=HS0.out;show w8.heap.size≤wi.heap.size;omega) _)
           have HRY:Hid (RBnd.rd (fun q=>w8.heap.size≤q∧(Value.slice a0 m0 c0).ownBlock≠some q) ((WA.setCell ⟨wi.heap.size,4,none⟩ (.string (((⟨#[120]⟩:Str)++nv)))).setCell ⟨wi.heap.size,5,none⟩ (.slice none 0 0)) [.int .i64 2,.string nv,.int .i64 0,.slice ta 0 tc,.string (((⟨#[120]⟩:Str)++nv)),.slice none 0 0,.string ⟨#[]⟩] (kI3 ⟨2,nv,⟨0,[]⟩,⟨⟨#[]⟩,[]⟩,⟨#[]⟩⟩)):=hJ
            ⟨_,_,rfl,⟨ta,tc,rfl,Sl.zero HTa.out.1 HTa.out.2⟩,⟨none,0,rfl,Sl.empty _ _ _⟩⟩
           have q0:=HPd.out.cell 0 _ rfl;have q1:=HPd.out.cell 1 _ rfl;have q2:=HPd.out.cell 2 _ rfl;have q3:=HPd.out.cell 3 _ rfl;have q4:=HPd.out.cell 4 _ rfl;have q5:=HPd.out.cell 5 _ rfl;have q6:=HPd.out.cell 6 _ rfl;have HOd:Hid (Own RBnd 42 (fun q=>w8.heap.size≤q) ((WA.setCell ⟨wi.heap.size,4,none⟩ (.string (((⟨#[120]⟩:Str)++nv)))).setCell ⟨wi.heap.size,5,none⟩ (.slice none 0 0)) w8.heap.size (.slice a0 m0 c0) lk):=hJ ((HO0.out.frame (w':=((WA.setCell ⟨wi.heap.size,4,none⟩ (.string (((⟨#[120]⟩:Str)++nv)))).setCell ⟨wi.heap.size,5,none⟩ (.slice none 0 0))) (fun q hq hs=>HKd.out q (by rcases hs with hs | hs;exact hs.2;exact HNw.out q hs)) (by have:=HS0.out;simp <;> omega)).mono (fun q hq _=>hq.1));have hzd:w8.heap.size<((WA.setCell ⟨wi.heap.size,4,none⟩ (.string (((⟨#[120]⟩:Str)++nv)))).setCell ⟨wi.heap.size,5,none⟩ (.slice none 0 0)).heap.size:=by have:=HS0.out;simp <;> omega
           have HZd:=hJ hzd;clear hzd HO0
           go_wp2_with (at_builtin;refine kA1 kCS rfl _ _ rfl w8.heap.size _ _ rfl (HOd.out.alloc _) _ _ [.int .i64 2,.string nv,.int .i64 0,.slice ta 0 tc,.string (((⟨#[120]⟩:Str)++nv)),.slice none 0 0,.string ⟨#[]⟩] rfl (RBnd.below HRY.out ((zB _ _).alloc (zR _) _)) (kA3 42 (by (simp only [kAJ,kAF,Array.getElem?_push,Array.size_push];simp))) (by have:=HLl.out;omega) (by have:=HLl.out;unfold maxLen;omega) (by have:=HZd.out;simp at this ⊢;omega) ?_;intro v9 w9 hown9 hb9 hk9;obtain ⟨a9,m9,c9,rfl⟩:=hown9.shape)
           have HB9:Hid (Below w8.heap.size w8 w9):=hJ ((HBd.out.alloc HBd.out.size _).trans (hb9.mono (zR _)));have HO9:=hJ hown9;clear hown9 hb9 hk9
           go_roundg (gk - 1)
           case measure=>omega
           case rel=>exact ⟨k+1,by omega,by omega,by go_num,hJ (by rw [HNx.out];exact HO9.out),HB9.out⟩
         · exact absurd hok h3
     · have q25:decide (25<(nv.size:Int))=true:=decide_eq_true (by omega)
       have hno:kC8 ⟨kd,nv,⟨0,[]⟩,⟨⟨#[]⟩,[]⟩,⟨#[]⟩⟩=false:=by rw [HOk0.out,decide_eq_false h25,q3n];rfl
       clear hok HOk0 hnm q3n;have HOn:Hid (Own RBnd 42 (fun q=>w8.heap.size≤q) WA w8.heap.size u9 (lead (L.take (k+1)))):=hJ (by rw [HNext.out,if_neg (by rw [hno];decide)];exact HO0.out.mono (fun q hq _=>hq.1));clear HNext HO0 HNw
       go_wp2_with fail
       go_roundg (gk - 1)
       case measure=>omega
       case rel=>exact ⟨k+1,by omega,by omega,by go_num,HOn,HBa.out⟩
 · obtain rfl:k=L.length:=by omega
   obtain ⟨ab,cb,rfl,hsb⟩:=HO.out.sl;rw [List.take_length] at hsb;rw [List.take_length];have HSb:=hJ hsb.all;have HWi:=hJ (HW8.out.trans (hB2.mono HW8.out.size));have HSi:=hJ (HS8.out.below hB2 HS8.out.lt);have HPAi:=hJ (HPA8.out.below hB2 HPA8.out.lt);have HRAi:=hJ (RSch.below HRA8.out hB2);clear hsb HO hB2 HW8 HS8 HPA8 HRA8 HVs;have s0:=HSi.out.cell 0 _ rfl;have s1:=HSi.out.cell 1 _ rfl;have s2:=HSi.out.cell 2 _ rfl;have s3:=HSi.out.cell 3 _ rfl;have s4:=HSi.out.cell 4 _ rfl
   go_wp2_with fail
   refine (HCV.out _ HWi.out).mono ?_;rintro e w9 ⟨⟨v9,rfl,hown⟩,hb⟩;obtain ⟨av2,cv2,rfl,hsv⟩:=hown.sl;have HVs:=hJ hsv.all;have HSb9:=hJ (HSb.out.below hb);have HW9:=hJ (HWi.out.trans (hb.mono HWi.out.size));have HS9:=hJ (HSi.out.below hb HSi.out.lt);have HPA9:=hJ (HPAi.out.below hb HPAi.out.lt);have HRA9:=hJ (RSch.below HRAi.out hb);clear hown hsv hb HSi HWi HPAi HRAi HSb s0 s1 s2 s3 s4 HCV;have hnl:(lead L).length≤3000:=zE (lead_len L) hn3
   go_wp2_with fail
   go_loopg [109] (L.length+1) (fun gk i wi=>∃ k:Nat,k+gk=L.length+1∧k≤L.length∧i= .int .i64 k∧Hid (∀ j,j<k→(L.getD j default).kind=3∨0≤kAW (lead L) (L.getD j default).kind (L.getD j default).v)∧Below w9.heap.size w9 wi)
   case atStart=>exact ⟨0,by omega,Nat.zero_le _,rfl,hJ (fun j hj=>absurd hj (by omega)),zB _ _⟩
   case round =>
   rename World=>wj
   obtain ⟨k,hkg,hk,rfl,HT,hB3⟩:=hrel;by_cases hlt:k<L.length
   · obtain ⟨bl,ol,rfl,hbl,_⟩:=HVs.out.form k hlt
     obtain ⟨t,d,hr,⟨⟨ta,tc,rfl,hta⟩,⟨da,dc,rfl,hda⟩⟩,e0,e1,e2,e3,e4,e5,e6⟩:=(HVs.out.below hB3).bnd k hlt;have HG:=hJ (fun q=>upto HT.out (p:=fun j=>(L.getD j default).kind=3∨0≤kAW (lead L) (L.getD j default).kind (L.getD j default).v) q);clear hr hta hda HCS HLe HLo HS9 HPA9 HRA9 HInv HSz HCa HAl HEq HE HR HV HT;generalize L.getD k default=x at *;obtain ⟨HB0,hy0,hs0⟩:=box1 wj 42 [.int .i64 x.kind,.string x.v,.int .i64 x.dim.const,.slice ta x.dim.terms.length tc,.string x.row.row,.slice da x.row.dims.length dc,.string x.elem];have HP:Hid (Bx _ _ _ _):=hJ hy0;have HBa:=hJ (hB3.trans (HB0.out.mono hB3.size));clear hy0 hs0 HB0
     go_upto_region 26 with fail
     generalize (wj.alloc (.cells #[.int .i64 x.kind,.string x.v,.int .i64 x.dim.const,.slice ta x.dim.terms.length tc,.string x.row.row,.slice da x.row.dims.length dc,.string x.elem] 42))=WX at *;clear e0 e1 e2 e3 e4 e5 e6;have p0:=HP.out.cell 0 _ rfl;have p1:=HP.out.cell 1 _ rfl;have HFi:=hJ (kEF (lead L) ab _ cb WX (HSb9.out.below HBa.out) x.kind x.v);by_cases h3:x.kind=3
     · have q3:(x.kind != 3)=false:=by rw [h3];rfl
       have HGo:=hJ (HG.out (.inl h3));clear h3 HG HFi
       go_wp2_with fail
       go_roundg (gk - 1)
       case measure=>omega
       case rel=>exact ⟨k+1,by omega,by omega,by go_num,HGo,HBa.out⟩
     · have q3:(x.kind != 3)=true:=bne_iff_ne.2 h3
       by_cases hq:0≤kAW (lead L) x.kind x.v
       · have HGo:=hJ (HG.out (.inr hq))
         have q4:decide (kAW (lead L) x.kind x.v<0)=false:=decide_eq_false (by omega);generalize kAW (lead L) x.kind x.v=qf at *;clear h3 HG
         go_wp2_with fail
         refine (HFi.out).mono ?_;rintro e _ ⟨rfl,rfl⟩
         go_wp2_with fail
         go_roundg (gk - 1)
         case measure=>omega
         case rel=>exact ⟨k+1,by omega,by omega,by go_num,HGo,HBa.out⟩
       · have q4:decide (kAW (lead L) x.kind x.v<0)=true:=decide_eq_true (by omega)
         generalize kAW (lead L) x.kind x.v=qf at *;clear h3 HG
         go_wp2_with fail
         refine (HFi.out).mono ?_;rintro e _ ⟨rfl,rfl⟩
         go_wp2_with fail
         go_ret;exact ⟨rfl,HW9.out.trans (HBa.out.mono HW9.out.size)⟩
   · obtain rfl:k=L.length:=by omega
     have HAll:=hJ (lead_all HInv.out HT.out);have hle:=HLe.out HAll.out;have HP1:=hJ (sub_valid (HLo.out HAll.out));have HWj:=hJ (HW9.out.trans (hB3.mono HW9.out.size));have HSj:=hJ (HS9.out.below hB3 HS9.out.lt);have HPAj:=hJ (HPA9.out.below hB3 HPA9.out.lt);have HRAj:=hJ (RSch.below HRA9.out hB3);have HSbj:=hJ (HSb9.out.below hB3);have HC5:=hJ (HCS.out _ HWj.out All ab _ cb HSbj.out);rw [hle.1,hle.2.1] at HC5;have hPl:(kBH (lead L) s).wh.length=s.wh.length:=List.length_map _;have HPl:Hid ((kBH (lead L) s).wh.length≤12):=hJ (by rw [hPl];exact zE (HSz.out.2.2 HV.out) (by decide));have HLr:=hJ hle.2.2;clear hle hPl HT hB3 HS9 HPA9 HRA9 HSb9 HVs HCS HLe HLo HInv HW9;generalize kBH (lead L) s=P at *;have s0:=HSj.out.cell 0 _ rfl;have s1:=HSj.out.cell 1 _ rfl;have s2:=HSj.out.cell 2 _ rfl;have s3:=HSj.out.cell 3 _ rfl;have s4:=HSj.out.cell 4 _ rfl
     go_wp2_with fail
     refine HC5.out.mono ?_;rintro e w10 ⟨⟨ds10,rfl,h⟩,hb⟩;obtain ⟨_,_,_,rfl,⟨pC,qC,rfl,_⟩,⟨rC,tC,rfl,_⟩,⟨uC,vC,rfl,_⟩⟩:=h.rd;have HRc:=hJ (RSch.mono h.rd (fun _ _ _=>(trivial:All _)));have HWa:=hJ (HWj.out.trans (hb.mono HWj.out.size));have HPAa:=hJ (HPAj.out.below hb HPAj.out.lt);have HRAa:=hJ (RSch.below HRAj.out hb);have hl9:=hb.size;clear h hb HSj HWj HC5 HPAj HRAj HSbj s0 s1 s2 s3 s4;obtain ⟨HB10,hy,hz10⟩:=box1 w10 29 [.slice pC P.params.length qC,.string P.result.elem,.string P.result.shape.row,.slice rC P.result.shape.dims.length tC,.slice uC P.wh.length vC];have HPC:Hid (Bx _ _ _ _):=hJ hy;have HRC:=hJ (RSch.below HRc.out HB10.out);have HW10:=hJ (HWa.out.trans (HB10.out.mono HWa.out.size));have HPA10:=hJ (HPAa.out.below HB10.out HPAa.out.lt);have HRA10:=hJ (RSch.below HRAa.out HB10.out);clear HB10 hy HRc HWa HPAa HRAa hz10;have c0:=HPC.out.cell 0 _ rfl;have c1:=HPC.out.cell 1 _ rfl;have c2:=HPC.out.cell 2 _ rfl;have c3:=HPC.out.cell 3 _ rfl;have c4:=HPC.out.cell 4 _ rfl;have HC6:=hJ (kC5 HRC.out (kGS HP1.out) (fun _=>HPl.out) (HE.out _ HW10.out).env);rw [HLr.out.1,HLr.out.2] at HC6;clear HLr HP1 HPl
     go_wp2_with fail
     refine HC6.out.mono ?_;rintro e w11 ⟨⟨ds11,rfl,h⟩,hb⟩;obtain ⟨_,_,_,rfl,⟨pD,qD,rfl,_⟩,⟨rD,tD,rfl,_⟩,⟨uD,vD,rfl,_⟩⟩:=id h;have HRd:=hJ (RSch.mono h (fun _ _ _=>(trivial:All _)));have HWa:=hJ (HW10.out.trans (hb.mono HW10.out.size));have HPAa:=hJ (HPA10.out.below hb HPA10.out.lt);have HRAa:=hJ (RSch.below HRA10.out hb);have hl10:=hb.size;clear h hb HW10 HC6 HPA10 HRA10 HPC HRC c0 c1 c2 c3 c4;obtain ⟨HB11,hy,hz11⟩:=box1 w11 29 [.slice pD (can s).params.length qD,.string (can s).result.elem,.string (can s).result.shape.row,.slice rD (can s).result.shape.dims.length tD,.slice uD (can s).wh.length vD];have HPD:Hid (Bx _ _ _ _):=hJ hy;have HRD:=hJ (RSch.below HRd.out HB11.out);have HW11:=hJ (HWa.out.trans (HB11.out.mono HWa.out.size));have HPA11:=hJ (HPAa.out.below HB11.out HPAa.out.lt);have HRA11:=hJ (RSch.below HRAa.out HB11.out);clear HB11 hy HRd HWa HPAa HRAa hz11;have p0:=HPA11.out.cell 0 _ rfl;have p1:=HPA11.out.cell 1 _ rfl;have p2:=HPA11.out.cell 2 _ rfl;have p3:=HPA11.out.cell 3 _ rfl;have p4:=HPA11.out.cell 4 _ rfl;have d0:=HPD.out.cell 0 _ rfl;have d1:=HPD.out.cell 1 _ rfl;have d2:=HPD.out.cell 2 _ rfl;have d3:=HPD.out.cell 3 _ rfl;have d4:=HPD.out.cell 4 _ rfl;have HE7:=hJ (HEq.out ▸ kDK HRA11.out HRD.out HAl.out HAl.out)
     go_wp2_with fail
     refine (HE7.out).mono ?_;rintro e w12 ⟨rfl,hb12⟩
     go_wp2_with fail
     go_ret;exact ⟨rfl,HW11.out.trans (hb12.mono HW11.out.size)⟩
theorem E6.size (e:E6):e.cs.length=6:=rfl
theorem pick6:∀ (l:List Ent) (P:Nat→E6→Prop),(∀ i x,l[i]? =some x→∃ e:E6,e.x=x∧P i e)→∃ zs:List E6,zs.map E6.x=l∧∀ i e,zs[i]? =some e→P i e
 | [],P,_=>⟨[],rfl,fun i e h=>by simp at h⟩
 | x :: l,P,h=>by
   obtain ⟨e0,he0,hp0⟩:=h 0 x rfl;obtain ⟨zs,hz,hp⟩:=pick6 l (fun i e=>P (i+1) e) (fun i y hy=>h (i+1) y (by simpa using hy));refine ⟨e0 :: zs,by rw [List.map_cons,he0,hz],fun i e hi=>?_⟩;cases i with
   | zero=>simp at hi;subst hi;exact hp0
   | succ i=>exact hp i e (by simpa using hi)
def Fit (w:World) (a:Option Addr):Prop:=∀ ad,a=some ad→∃ b off,ad=⟨b,off,none⟩∧b<w.heap.size
theorem Fit.below {w w':World} {a:Option Addr} (h:Fit w a) (hs:w.heap.size≤w'.heap.size):Fit w' a:=fun ad e=>by
 obtain ⟨b,off,e',hb⟩:=h ad e;exact ⟨b,off,e',by omega⟩
theorem Sl.e6 {S:Blk} {w:World} {a:Option Addr} {n c:Nat} {l:List Ent} (h:Sl REnt S w a n c l) (hf:Fit w a):∃ zs:List E6,zs.map E6.x=l∧Hold6 w.heap.size w (.slice a n c) zs∧∀ z ∈ zs,REnt.rd S w z.cs z.x:=by
 obtain ⟨zs,hz,hp⟩:=pick6 l (fun i e=>REnt.rd S w e.cs e.x∧∃ b off,a=some ⟨b,off,none⟩∧∀ j u,e.cs[j]? =some u→w.cell? ⟨b,off+(i * 6+j),none⟩=some u) (fun i x hx=>by
  obtain ⟨b,off,cs,ha,_,hr,hc⟩:=h.at_ i x hx;obtain ⟨e,he,rfl⟩:=E6.of hr;exact ⟨e,he,by rw [he];exact hr,b,off,ha,hc⟩)
 have hl:zs.length=n:=by rw [← h.len,← hz,List.length_map]
 refine ⟨zs,hz,?_,fun z hz'=>?_⟩
 · cases a with
   | none =>
     have h0:=h.nil rfl;have h1:=h.cap;subst h0;obtain rfl:n=0:=by omega
     exact .inl ⟨rfl,zL hl⟩
   | some ad =>
     obtain ⟨b,off,rfl,hb⟩:=hf ad rfl;refine .inr ⟨b,off,c,by rw [hl],hb,fun j x hx i u hu=>?_⟩;obtain ⟨_,b',off',e',hc⟩:=hp j x hx;cases e';exact hc i u hu
 · obtain ⟨i,hi,rfl⟩:=List.getElem_of_mem hz'
   exact (hp i _ (zG hi)).1
theorem Hold6.lift {n₀ n₁ :Nat} {A:World} (h:n₀ ≤n₁) {sv:Value} {zs:List E6}:Hold6 n₀ A sv zs→Hold6 n₁ A sv zs
 | .inl e=>.inl e
 | .inr ⟨b,off,cap,e,hb,hc⟩=>.inr ⟨b,off,cap,e,by omega,hc⟩
theorem Raw.put5 {E:TypeId} {w:World} {g:Nat} {css:List (List Value)} {rest:List Value} (h:Raw 6 E w g css rest) {i:Nat} {c0 c1 c2 c3 c4 c5:Value} (hi:css[i]? =some [c0,c1,c2,c3,c4,c5]) (v1 v2 v3 v4 v5:Value) :
 Raw 6 E (((((w.setCell ⟨g,i * 6+1,none⟩ v1).setCell ⟨g,i * 6+2,none⟩ v2).setCell ⟨g,i * 6+3,none⟩ v3).setCell ⟨g,i * 6+4,none⟩ v4).setCell ⟨g,i * 6+5,none⟩ v5) g (css.set i [c0,v1,v2,v3,v4,v5]) rest:=by
 have hl:i<css.length:=by
  rcases zF i css.length with q | q
  · exact q
  · rw [List.getElem?_eq_none q] at hi;cases hi
 have h1:Raw 6 E _ g (css.set i [c0,v1,c2,c3,c4,c5]) rest:=h.set hi (j:=1) (by decide) v1;have h2:=h1.set (i:=i) (cs:=[c0,v1,c2,c3,c4,c5]) (List.getElem?_set_self hl) (j:=2) (by decide) v2;rw [List.set_set] at h2;have h3:=h2.set (i:=i) (cs:=[c0,v1,v2,c3,c4,c5]) (List.getElem?_set_self hl) (j:=3) (by decide) v3;rw [List.set_set] at h3;have h4:=h3.set (i:=i) (cs:=[c0,v1,v2,v3,c4,c5]) (List.getElem?_set_self hl) (j:=4) (by decide) v4;rw [List.set_set] at h4;have h5:=h4.set (i:=i) (cs:=[c0,v1,v2,v3,v4,c5]) (List.getElem?_set_self hl) (j:=5) (by decide) v5;rw [List.set_set] at h5;exact h5
theorem Own.fit {α :Type} {R:Rep α} {E:TypeId} {S:Blk} {w:World} {base:Nat} {a:Option Addr} {n c:Nat} {l:List α} (h:Own R E S w base (.slice a n c) l):Fit w a:=fun ad e=>by
 subst e;obtain ⟨css,_,hrow,_⟩:=h.row;obtain ⟨a2,c2,hv,_,_,_,hg⟩:=kC0 hrow;rw [Value.slice.injEq] at hv;obtain ⟨rfl,-,rfl⟩:=hv;obtain ⟨g,e,_,hg2⟩:=hg ad rfl;exact ⟨g,0,e,hg2⟩
theorem Own.ready {E:TypeId} {L B:Nat} {w:World} {v:Value} {l:List Ent} (h:Own REnt E (fun k=>k<L) w B v l):∃ a c,v= .slice a l.length c∧Sl REnt (fun k=>(k<L∨B≤k)∧k<w.heap.size) w a l.length c l∧Fit w a:=by
 obtain ⟨a,c,rfl,hs,hat⟩:=h.slAt;exact ⟨a,c,rfl,hs.mono (fun k hk hlt=>⟨hk.elim .inl (fun q=>.inr (hat k q).1),hlt⟩),h.fit⟩
theorem put2 {S:Blk} {W0 w1:World} {g B:Nat} {T:TypeId} {z0 z1:Value} (v0 v1:Value) {a:Option Addr} {n c:Nat} {l:List Ent} (hb:Bx W0 g T [z0,z1]) (hr:Sl REnt S W0 a n c l) (hS:∀ k,S k→k<W0.heap.size→k≠g) (hB:Below B w1 W0) (hg:B≤g) :
 Hid (Bx ((W0.setCell ⟨g,0,none⟩ v0).setCell ⟨g,1,none⟩ v1) g T [v0,v1])∧Hid (Sl REnt All ((W0.setCell ⟨g,0,none⟩ v0).setCell ⟨g,1,none⟩ v1) a n c l)∧Hid (Below B w1 ((W0.setCell ⟨g,0,none⟩ v0).setCell ⟨g,1,none⟩ v1)) :=
 ⟨hJ ((hb.set 0 v0).set 1 v1),hJ ((hr.frame (fun k hk hlt=>(kAA (fun e=>hS k hk hlt e.symm)).trans (kAA (fun e=>hS k hk hlt e.symm)))).all),hJ ((hB.setCell hg _).setCell hg _)⟩
end Go.Proofs.YtcjfagnlmlkedaaGreatDoor
