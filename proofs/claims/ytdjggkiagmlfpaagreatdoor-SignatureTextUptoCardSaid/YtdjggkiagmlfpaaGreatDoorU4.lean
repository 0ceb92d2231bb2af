/- The claim's texts, part 4: contracts of the functions that the statement reaches, and what they say of the data. -/
import Derived.Test.YtdjggkiagmlfpaaGreatDoorU3
set_option maxRecDepth 100000
set_option maxHeartbeats 8000000
set_option linter.all false
namespace Go.Proofs.YtdjggkiagmlfpaaGreatDoor
open Go.Proofs.Tryz
open Go.RowKit
def fine (x:Ent):Prop:=szS x.scheme∧x.name.size≤281474976710656∧(kAH x.scheme=true→x.scheme.wh.length≤12)
theorem Raw.put5 {E:TypeId} {w:World} {g:Nat} {css:List (List Value)} {rest:List Value} (h:Raw 6 E w g css rest) {i:Nat} {c0 c1 c2 c3 c4 c5:Value} (hi:css[i]? =some [c0,c1,c2,c3,c4,c5]) (v1 v2 v3 v4 v5:Value) :
 Raw 6 E (((((w.setCell ⟨g,i * 6+1,none⟩ v1).setCell ⟨g,i * 6+2,none⟩ v2).setCell ⟨g,i * 6+3,none⟩ v3).setCell ⟨g,i * 6+4,none⟩ v4).setCell ⟨g,i * 6+5,none⟩ v5) g (css.set i [c0,v1,v2,v3,v4,v5]) rest:=by
 have hl:i<css.length:=by
  rcases Nat.lt_or_ge i css.length with q | q
  · exact q
  · rw [List.getElem?_eq_none q] at hi;cases hi
 have h1:Raw 6 E _ g (css.set i [c0,v1,c2,c3,c4,c5]) rest:=h.set hi (j:=1) (by decide) v1;have h2:=h1.set (i:=i) (cs:=[c0,v1,c2,c3,c4,c5]) (List.getElem?_set_self hl) (j:=2) (by decide) v2;rw [List.set_set] at h2;have h3:=h2.set (i:=i) (cs:=[c0,v1,v2,c3,c4,c5]) (List.getElem?_set_self hl) (j:=3) (by decide) v3;rw [List.set_set] at h3;have h4:=h3.set (i:=i) (cs:=[c0,v1,v2,v3,c4,c5]) (List.getElem?_set_self hl) (j:=4) (by decide) v4;rw [List.set_set] at h4;have h5:=h4.set (i:=i) (cs:=[c0,v1,v2,v3,v4,c5]) (List.getElem?_set_self hl) (j:=5) (by decide) v5;rw [List.set_set] at h5;exact h5
theorem kJ7 {w:World} {g o1 o2 o3 o4 o5:Nat} {v1 v2 v3 v4 v5:Value} {q:Nat} (hq:q≠g):(((((w.setCell ⟨g,o1,none⟩ v1).setCell ⟨g,o2,none⟩ v2).setCell ⟨g,o3,none⟩ v3).setCell ⟨g,o4,none⟩ v4).setCell ⟨g,o5,none⟩ v5).heap[q]? =w.heap[q]? :=
 (kAB (fun e=>hq e.symm)).trans ((kAB (fun e=>hq e.symm)).trans ((kAB (fun e=>hq e.symm)).trans ((kAB (fun e=>hq e.symm)).trans (kAB (fun e=>hq e.symm)))))
theorem below_set5 {w0 w:World} {B g o1 o2 o3 o4 o5:Nat} {v1 v2 v3 v4 v5:Value} (h:Below B w0 w) (hg:B≤g):Below B w0 (((((w.setCell ⟨g,o1,none⟩ v1).setCell ⟨g,o2,none⟩ v2).setCell ⟨g,o3,none⟩ v3).setCell ⟨g,o4,none⟩ v4).setCell ⟨g,o5,none⟩ v5) :=
 ((((h.setCell hg _).setCell hg _).setCell hg _).setCell hg _).setCell hg _
theorem own_put5 {S:Blk} {W:World} {base g c n k:Nat} {E:TypeId} {css:List (List Value)} {rest:List Value} {l:List Ent} {x:Ent} {y:Sch} {c0 c1 c2 c3 c4 c5 v1 v2 v3 v4 v5:Value} (hR:Raw 6 E W g css rest) (hL:Lies REnt S W g css l) (hi:css[k]? =some [c0,c1,c2,c3,c4,c5]) (h0:c0= .string x.name) (hg:base≤g) (hn:n≤c) (hm:c≤maxLen) (hsz:css.length * 6+rest.length=c * 6) (hln:l.length=n)
 (hr:RSch.rd (fun q=>S q∧q≠g) W [v1,v2,v3,v4,v5] y) :
 Own REnt E S (((((W.setCell ⟨g,k * 6+1,none⟩ v1).setCell ⟨g,k * 6+2,none⟩ v2).setCell ⟨g,k * 6+3,none⟩ v3).setCell ⟨g,k * 6+4,none⟩ v4).setCell ⟨g,k * 6+5,none⟩ v5) base (.slice (some ⟨g,0,none⟩) n c) (l.set k ⟨x.name,y⟩):=by
 have hR2:=hR.put5 hi v1 v2 v3 v4 v5;have hL2:Lies REnt S (((((W.setCell ⟨g,k * 6+1,none⟩ v1).setCell ⟨g,k * 6+2,none⟩ v2).setCell ⟨g,k * 6+3,none⟩ v3).setCell ⟨g,k * 6+4,none⟩ v4).setCell ⟨g,k * 6+5,none⟩ v5) g css l:=hL.frame (fun q _ hne _=>kJ7 hne);have hL3:=hL2.set k (cs:=[c0,v1,v2,v3,v4,v5]) (y:=⟨x.name,y⟩) ⟨_,by rw [h0],(RSch.frame hr (fun q hq _=>kJ7 hq.2))⟩;have:=Raw.own (R:=REnt) (S:=S) (base:=base) (c:=c) hR2 hL3 hg (by rw [List.length_set,hln];exact hn) hm (by rw [List.length_set];exact hsz)
 rwa [List.length_set,hln] at this
theorem signature_Make {S:Blk} {w:World} {mod:Str} {l:List Ent} {a:Option Addr} {n c:Nat} (h:Sl REnt S w a n c l) (hf:Fit w a) (hn:l.length≤12) (hfine:∀ x ∈ l,fine x) (hmz:mod.size≤281474976710656) (E:Env w) :
 Calls Tryz.prog 15 #[.string mod,.slice a n c] w fun e w'=>(∃ (A:Ifc) (ev:Int) (a':Option Addr) (c':Nat),e= .returned (.tuple #[.agg #[.string A.module_,.slice a' A.entries.length c'],.int .i64 ev])∧Says mod l A ev∧Sl REnt (Fr S w) w' a' A.entries.length c' A.entries)∧Below w.heap.size w w':=by
 obtain ⟨zs,hz,hI,hr⟩:=h.e6 hf;have hlz:zs.length=l.length:=by rw [← hz,List.length_map]
 have hnl:n=l.length:=h.len.symm;have HE:Hid (∀ W,Below w.heap.size w W→Env W):=hJ (fun W hW=>E.below hW);obtain ⟨W0,hW0⟩:∃ W0,w.alloc (.cells #[.string ⟨#[]⟩,.slice none 0 0] 29)=W0:=⟨_,rfl⟩
 have hB0:Below w.heap.size w W0:=by rw [← hW0];exact (Below.refl _ _).alloc (Nat.le_refl _) _
 have hR0:Bx W0 w.heap.size 29 [.string ⟨#[]⟩,.slice none 0 0]:=by rw [← hW0];exact Bx.fresh w _ [.string ⟨#[]⟩,.slice none 0 0]
 have hs0:W0.heap.size=w.heap.size+1:=by rw [← hW0];simp
 obtain ⟨W1,hW1⟩:∃ W1,W0.alloc (.cells #[.slice a n c] 27)=W1:=⟨_,rfl⟩
 have hB1:Below W0.heap.size W0 W1:=by rw [← hW1];exact (Below.refl _ _).alloc (Nat.le_refl _) _
 have hc1:W1.cell? ⟨W0.heap.size,0,none⟩=some (.slice a n c):=by rw [← hW1];exact (Bx.fresh W0 27 [.slice a n c]).cell 0 _ rfl
 have hs1:W1.heap.size=w.heap.size+2:=by rw [← hW1];simp [hs0]
 have hB01:Below w.heap.size w W1:=hB0.trans (hB1.mono (by omega));have HV:=hJ (values_Ent a n c W0);rw [hW1] at HV;have HS:=hJ (sortedStable_Ent (S:=fun k=>S k∧k<w.heap.size) (w:=W1) (.slice a n c) zs (by omega) W0.heap.size (by omega) hc1 ((hI.below hB01).lift (by omega)) (fun z hz=>REnt.below (REnt.mono (hr z hz) (fun k hs hk=>⟨hs,hk⟩)) hB01));have HR1:Hid (Bx W1 w.heap.size _ _):=hJ (hR0.below hB1 (by omega));have HB1:=hJ hB01;rw [hz] at HS;have HF:=hJ hfine;have HL:Hid (l.length=n):=hJ hnl.symm;have hn12:n≤12:=by omega
 have HPm:Hid (∀ m:List Ent,m.Perm l→m.length=n):=hJ (fun m hp=>by rw [hp.length_eq];exact hnl.symm);have HZ0:=hJ hs0;have HZ1:=hJ hs1;clear h hf hI hr hz hlz hnl hn hfine E hc1 hB0 hB1 hB01 hR0 hs0 hs1;go_enter func15,ntmps15
 go_wp2_with fail
 refine HV.out.mono ?_;rintro e _ ⟨rfl,rfl⟩
 go_wp2_with fail
 refine HS.out.mono ?_;rintro e w2 ⟨⟨v,rfl,m,hp,hle,ho⟩,hb2⟩;clear hW0 hW1 HV HS;have hs0:=HZ0.out;have hs1:=HZ1.out;have hml:=HPm.out m hp;obtain ⟨av,cv,hv,_⟩:=ho.sl;rw [hml] at hv;subst hv;have HP:=hJ hp;have HLe:=hJ hle;have hz2:=hb2.size;have HG:Hid ((Value.slice av n cv).ownBlock≠some w2.heap.size):=hJ (fun e=>by have:=(ho.block e).2;omega);have HO2:Hid (Own REnt 60 (fun q=>(S q∨w.heap.size≤q)∧q≠w.heap.size∧q≠w2.heap.size) w2 (w.heap.size+2) (.slice av n cv) m):=hJ ((ho.mono (fun q hq _=>⟨.inl hq.1.1,by have:=hq.1.2;omega,by have:=hq.1.2;have:=hb2.size;omega⟩)).lower (by omega));have HR2:=hJ (HR1.out.below hb2 (by omega));have HB2:Hid (Below w.heap.size w w2):=hJ (HB1.out.trans (hb2.mono (by omega)));have HFm:Hid (∀ x ∈ m,fine x):=hJ (fun x hx=>HF.out x (hp.mem_iff.1 hx));have HML:=hJ hml;have hzs:w.heap.size+2≤w2.heap.size:=by omega
 clear hp hle ho hb2 hml HR1 HB1 hs0 hs1 hz2;obtain ⟨W3,hW3⟩:∃ W3,w2.alloc (.cells #[.string mod,.slice av n cv] 29)=W3:=⟨_,rfl⟩
 have HB3:Hid (Below w2.heap.size w2 W3):=hJ (by rw [← hW3];exact (Below.refl _ _).alloc (Nat.le_refl _) _);have HX3:Hid (Bx W3 w2.heap.size 29 [.string mod,.slice av n cv]):=hJ (by rw [← hW3];exact Bx.fresh _ _ _);have hz3:W3.heap.size=w2.heap.size+1:=by rw [← hW3];simp
 have HR3:=hJ (HR2.out.below HB3.out (by omega));have HO3:=hJ (HO2.out.below HB3.out);have HBa:=hJ (HB2.out.trans (HB3.out.mono (by omega)));have x0:=HX3.out.cell 0 _ rfl;have x1:=HX3.out.cell 1 _ rfl
 go_wp2_with fail
 refine (kB7 mod _ hmz).mono ?_;rintro e _ ⟨rfl,rfl⟩;clear hW3
 go_wp2_with fail
 go_loopw [7,24] (fun okv i wr=>∃ k:Nat,k≤n∧i= .int .i64 k∧okv= .bool (okK mod m k)∧Hid (Own REnt 60 (fun q=>(S q∨w.heap.size≤q)∧q≠w.heap.size∧q≠w2.heap.size) wr (w.heap.size+2) (.slice av n cv) (kHX m k))∧Hid (Bx wr w2.heap.size 29 [.string mod,.slice av n cv])∧Hid (Bx wr w.heap.size 29 [.string ⟨#[]⟩,.slice none 0 0])∧Below w.heap.size w wr∧W3.heap.size≤wr.heap.size) (fun _ i _=>n - (intOf i).toNat)
 case atStart=>exact ⟨0,Nat.zero_le _,rfl,by rw [okK_zero],by rw [canUp_zero];exact HO3,HX3,HR3,HBa.out,Nat.le_refl _⟩
 case round =>
  obtain ⟨k,hk,rfl,rfl,HO,HX,HR,hB,hsz⟩:=hrel;clear x0 x1;have x0:=HX.out.cell 0 _ rfl;have x1:=HX.out.cell 1 _ rfl;by_cases hlt:k<n
  · have hkm:k<m.length:=by rw [HML.out];exact hlt
    obtain ⟨g,c',css,rest,hv,hg,hR,hL,hlc,hcm,hsl⟩:=HO.out.raw (by rw [canUp_len];omega);rw [Value.slice.injEq] at hv;obtain ⟨rfl,-,rfl⟩:=hv;rw [canUp_len,HML.out] at hlc;replace hR:Raw 6 60 wr g css rest:=hR;obtain ⟨cs,hi,hr⟩:=hL.2 k _ (canUp_at hkm);obtain ⟨⟨x,pa,pc,ta,tc,qa,qc⟩,hzx,rfl⟩:=E6.of hr;replace hzx:x=m.getD k default:=hzx;have HFx:=hJ (HFm.out x (by rw [hzx];exact kAJ hkm));have HNext:Hid ((kHX m k).set k (canE x)=kHX m (k+1)):=hJ (by rw [hzx];exact canUp_next hkm);have HOk:Hid (okK mod m (k+1)=(okK mod m k && (decide (kHY x.scheme=0) && kAZ x.name))):=hJ (by rw [okK_next hkm,hzx,goodE_err]);replace hi:css[k]? =some [.string x.name,.slice pa x.scheme.params.length pc,.string x.scheme.result.elem,.string x.scheme.result.shape.row,.slice ta x.scheme.result.shape.dims.length tc,.slice qa x.scheme.wh.length qc]:=hi;rw [← hzx] at hr;obtain ⟨cs',e',hsch⟩:=hr;replace e':[.string x.name,.slice pa x.scheme.params.length pc,.string x.scheme.result.elem,.string x.scheme.result.shape.row,.slice ta x.scheme.result.shape.dims.length tc,.slice qa x.scheme.wh.length qc]= .string x.name :: cs':=e';cases e';have HCan:=hJ (fun (W:World) (hW:Below wr.heap.size wr W)=>types_Canonical (RSch.below hsch hW) HFx.out.1 HFx.out.2.2 (HE.out W (hB.trans (hW.mono hB.size))));have c0:=hR.cell hi 0 _ rfl;have c1:=hR.cell hi 1 _ rfl;have c2:=hR.cell hi 2 _ rfl;have c3:=hR.cell hi 3 _ rfl;have c4:=hR.cell hi 4 _ rfl;have c5:=hR.cell hi 5 _ rfl;rw [Nat.add_zero] at c0;have HRw:=hJ hR;have HLw:=hJ hL;have HI:=hJ hi;have HGn:Hid (g≠w2.heap.size):=hJ (fun e=>HG.out (by rw [e];rfl));have HWa:Hid (Below wr.heap.size wr (wr.alloc (.cells [.string x.name,.slice pa x.scheme.params.length pc,.string x.scheme.result.elem,.string x.scheme.result.shape.row,.slice ta x.scheme.result.shape.dims.length tc,.slice qa x.scheme.wh.length qc].toArray 60))):=hJ ((Below.refl _ _).alloc (Nat.le_refl _) _);have hgl:=hR.lt;have HSl:Hid (css.length * 6+rest.length=cv * 6):=hJ hsl;clear hzx hsch hR hL hi hsl
    go_wp2_with fail
    refine (HCan.out _ HWa.out).mono ?_;rintro e w4 ⟨⟨ds,rfl,hds⟩,hb4⟩;have HY:Hid (canE x=⟨x.name,can x.scheme⟩):=hJ rfl;have HBq:=hJ (HWa.out.trans (hb4.mono HWa.out.size));have HE4:Hid (Bx w4 wr.heap.size 60 [.string x.name,.slice pa x.scheme.params.length pc,.string x.scheme.result.elem,.string x.scheme.result.shape.row,.slice ta x.scheme.result.shape.dims.length tc,.slice qa x.scheme.wh.length qc]):=hJ ((Bx.fresh wr 60 [.string x.name,.slice pa x.scheme.params.length pc,.string x.scheme.result.elem,.string x.scheme.result.shape.row,.slice ta x.scheme.result.shape.dims.length tc,.slice qa x.scheme.wh.length qc]).below hb4 (by simp));have hnz:=HFx.out.2.1;clear HCan HWa HFx c0 c1 c2 c3 c4 c5 x0 x1 hb4;generalize can x.scheme=y at *;generalize kHY x.scheme=ce at *;obtain ⟨_,_,_,rfl,⟨p5,pc5,rfl,hp5⟩,⟨t5,tc5,rfl,ht5⟩,⟨q5,qc5,rfl,hq5⟩⟩:=hds;have hz4:=HBq.out.size;have hgl4:g<w4.heap.size:=by omega
    have HR4:=hJ (HRw.out.below HBq.out hgl);have HX4:=hJ (HX.out.below HBq.out HX.out.lt);have HRz4:=hJ (HR.out.below HBq.out HR.out.lt);have x0:=HX4.out.cell 0 _ rfl;have x1:=HX4.out.cell 1 _ rfl;have e0:=HE4.out.cell 0 _ rfl;have d1:=HR4.out.cell HI.out 1 _ rfl;have d2:=HR4.out.cell HI.out 2 _ rfl;have d3:=HR4.out.cell HI.out 3 _ rfl;have d4:=HR4.out.cell HI.out 4 _ rfl;have d5:=HR4.out.cell HI.out 5 _ rfl;have f1:=HR4.out.fz (k * 6+1);have f2:=HR4.out.fz (k * 6+2);have f3:=HR4.out.fz (k * 6+3);have f4:=HR4.out.fz (k * 6+4);have f5:=HR4.out.fz (k * 6+5);have hex:wr.heap.size<w4.heap.size:=HE4.out.lt;have hxl:w2.heap.size<w4.heap.size:=HX4.out.lt
    have HOe:Own REnt 60 (fun q=>(S q∨w.heap.size≤q)∧q≠w.heap.size∧q≠w2.heap.size) ((((((w4.setCell ⟨g,k * 6+1,none⟩ (.slice p5 y.params.length pc5)).setCell ⟨g,k * 6+1+1,none⟩ (.string y.result.elem)).setCell ⟨g,k * 6+1+2,none⟩ (.string y.result.shape.row)).setCell ⟨g,k * 6+1+3,none⟩ (.slice t5 y.result.shape.dims.length tc5)).setCell ⟨g,k * 6+1+4,none⟩ (.slice q5 y.wh.length qc5))) (w.heap.size+2) (.slice (some ⟨g,0,none⟩) n cv) (kHX m (k+1)):=by
     rw [← HNext.out,HY.out];refine own_put5 HR4.out (HLw.out.below HBq.out) HI.out rfl hg hlc hcm HSl.out (by rw [canUp_len,HML.out]) ?_;refine RSch.mono (S:=fun q=>(wr.alloc (.cells [.string x.name,.slice pa x.scheme.params.length pc,.string x.scheme.result.elem,.string x.scheme.result.shape.row,.slice ta x.scheme.result.shape.dims.length tc,.slice qa x.scheme.wh.length qc].toArray 60)).heap.size≤q) ⟨_,_,_,rfl,⟨p5,pc5,rfl,hp5⟩,⟨t5,tc5,rfl,ht5⟩,⟨q5,qc5,rfl,hq5⟩⟩ (fun q hq hlt=>?_);simp at hq;exact ⟨⟨.inr (by omega),by omega,by omega⟩,by omega⟩
    have HOd:Hid (Own REnt 60 (fun q=>(S q∨w.heap.size≤q)∧q≠w.heap.size∧q≠w2.heap.size) (((((((w4.setCell ⟨g,k * 6+1,none⟩ (.slice p5 y.params.length pc5)).setCell ⟨g,k * 6+1+1,none⟩ (.string y.result.elem)).setCell ⟨g,k * 6+1+2,none⟩ (.string y.result.shape.row)).setCell ⟨g,k * 6+1+3,none⟩ (.slice t5 y.result.shape.dims.length tc5)).setCell ⟨g,k * 6+1+4,none⟩ (.slice q5 y.wh.length qc5))).alloc (.cells #[.slice p5 y.params.length pc5,.string y.result.elem,.string y.result.shape.row,.slice t5 y.result.shape.dims.length tc5,.slice q5 y.wh.length qc5] 57)) (w.heap.size+2) (.slice (some ⟨g,0,none⟩) n cv) (kHX m (k+1))):=hJ (HOe.alloc _);have HXe:Bx ((((((w4.setCell ⟨g,k * 6+1,none⟩ (.slice p5 y.params.length pc5)).setCell ⟨g,k * 6+1+1,none⟩ (.string y.result.elem)).setCell ⟨g,k * 6+1+2,none⟩ (.string y.result.shape.row)).setCell ⟨g,k * 6+1+3,none⟩ (.slice t5 y.result.shape.dims.length tc5)).setCell ⟨g,k * 6+1+4,none⟩ (.slice q5 y.wh.length qc5))) w2.heap.size 29 [.string mod,.slice (some ⟨g,0,none⟩) n cv]:=(kJ7 (fun e=>HGn.out e.symm)).trans HX4.out;have HXd:Hid (Bx (((((((w4.setCell ⟨g,k * 6+1,none⟩ (.slice p5 y.params.length pc5)).setCell ⟨g,k * 6+1+1,none⟩ (.string y.result.elem)).setCell ⟨g,k * 6+1+2,none⟩ (.string y.result.shape.row)).setCell ⟨g,k * 6+1+3,none⟩ (.slice t5 y.result.shape.dims.length tc5)).setCell ⟨g,k * 6+1+4,none⟩ (.slice q5 y.wh.length qc5))).alloc (.cells #[.slice p5 y.params.length pc5,.string y.result.elem,.string y.result.shape.row,.slice t5 y.result.shape.dims.length tc5,.slice q5 y.wh.length qc5] 57)) w2.heap.size 29 [.string mod,.slice (some ⟨g,0,none⟩) n cv]):=hJ (HXe.alloc _);have HRe:Bx ((((((w4.setCell ⟨g,k * 6+1,none⟩ (.slice p5 y.params.length pc5)).setCell ⟨g,k * 6+1+1,none⟩ (.string y.result.elem)).setCell ⟨g,k * 6+1+2,none⟩ (.string y.result.shape.row)).setCell ⟨g,k * 6+1+3,none⟩ (.slice t5 y.result.shape.dims.length tc5)).setCell ⟨g,k * 6+1+4,none⟩ (.slice q5 y.wh.length qc5))) w.heap.size 29 [.string ⟨#[]⟩,.slice none 0 0]:=(kJ7 (fun e=>by omega)).trans HRz4.out;have HRd:Hid (Bx (((((((w4.setCell ⟨g,k * 6+1,none⟩ (.slice p5 y.params.length pc5)).setCell ⟨g,k * 6+1+1,none⟩ (.string y.result.elem)).setCell ⟨g,k * 6+1+2,none⟩ (.string y.result.shape.row)).setCell ⟨g,k * 6+1+3,none⟩ (.slice t5 y.result.shape.dims.length tc5)).setCell ⟨g,k * 6+1+4,none⟩ (.slice q5 y.wh.length qc5))).alloc (.cells #[.slice p5 y.params.length pc5,.string y.result.elem,.string y.result.shape.row,.slice t5 y.result.shape.dims.length tc5,.slice q5 y.wh.length qc5] 57)) w.heap.size 29 [.string ⟨#[]⟩,.slice none 0 0]):=hJ (HRe.alloc _)
    have HBe:Below w.heap.size w ((((((w4.setCell ⟨g,k * 6+1,none⟩ (.slice p5 y.params.length pc5)).setCell ⟨g,k * 6+1+1,none⟩ (.string y.result.elem)).setCell ⟨g,k * 6+1+2,none⟩ (.string y.result.shape.row)).setCell ⟨g,k * 6+1+3,none⟩ (.slice t5 y.result.shape.dims.length tc5)).setCell ⟨g,k * 6+1+4,none⟩ (.slice q5 y.wh.length qc5))):=below_set5 (hB.trans (HBq.out.mono hB.size)) (by omega);have HBd:Hid (Below w.heap.size w (((((((w4.setCell ⟨g,k * 6+1,none⟩ (.slice p5 y.params.length pc5)).setCell ⟨g,k * 6+1+1,none⟩ (.string y.result.elem)).setCell ⟨g,k * 6+1+2,none⟩ (.string y.result.shape.row)).setCell ⟨g,k * 6+1+3,none⟩ (.slice t5 y.result.shape.dims.length tc5)).setCell ⟨g,k * 6+1+4,none⟩ (.slice q5 y.wh.length qc5))).alloc (.cells #[.slice p5 y.params.length pc5,.string y.result.elem,.string y.result.shape.row,.slice t5 y.result.shape.dims.length tc5,.slice q5 y.wh.length qc5] 57))):=hJ (HBe.alloc HBe.size _);have hzd:W3.heap.size≤((((((((w4.setCell ⟨g,k * 6+1,none⟩ (.slice p5 y.params.length pc5)).setCell ⟨g,k * 6+1+1,none⟩ (.string y.result.elem)).setCell ⟨g,k * 6+1+2,none⟩ (.string y.result.shape.row)).setCell ⟨g,k * 6+1+3,none⟩ (.slice t5 y.result.shape.dims.length tc5)).setCell ⟨g,k * 6+1+4,none⟩ (.slice q5 y.wh.length qc5))).alloc (.cells #[.slice p5 y.params.length pc5,.string y.result.elem,.string y.result.shape.row,.slice t5 y.result.shape.dims.length tc5,.slice q5 y.wh.length qc5] 57))).heap.size:=by simp;omega
    clear HOe HXe HRe HBe;clear hp5 ht5 hq5;generalize okK mod m k=ok at *;cases ok with
    | false =>
      go_wp2_with fail
      go_roundw
      case rel=>exact ⟨k+1,by omega,by go_num,by rw [HOk.out];rfl,HOd,HXd,HRd,HBd.out,hzd⟩
      case measure=>simp [intOf];omega
    | true =>
      by_cases hce:ce=0
      · subst hce
        go_wp2_with fail
        refine (kB7 x.name _ hnz).mono ?_;rintro e _ ⟨rfl,rfl⟩
        go_wp2_with fail
        go_roundw
        case rel=>exact ⟨k+1,by omega,by go_num,by rw [HOk.out];simp,HOd,HXd,HRd,HBd.out,hzd⟩
        case measure=>simp [intOf];omega
      · have hc2:(ce==0)=false:=beq_eq_false_iff_ne.2 hce
        have hc3:decide (ce=0)=false:=decide_eq_false hce
        go_wp2_with fail
        go_roundw
        case rel=>exact ⟨k+1,by omega,by go_num,by rw [HOk.out,hc3];rfl,HOd,HXd,HRd,HBd.out,hzd⟩
        case measure=>simp [intOf];omega
  · obtain rfl:k=n:=by omega
    have HCn:Hid (kHX m k=m.map canE):=hJ (by rw [← HML.out];exact canUp_all m);rw [HCn.out] at HO;have HSb:Hid (okK mod m k=false→Says mod l noIfc 1):=hJ (fun q=>says_bad HP.out (by rw [HML.out];exact q));have HSt:Hid (okK mod m k=true→∀ j,0<j→j<k→(m.getD (j - 1) default).name=(m.getD j default).name→Says mod l noIfc 8):=hJ (fun q j h0 h1 he=>says_twice HP.out (by rw [HML.out];exact q) h0 (by rw [HML.out];exact h1) he);have HSd:Hid (okK mod m k=true→(∀ j,0<j→j<k→(m.getD (j - 1) default).name≠(m.getD j default).name)→Says mod l ⟨mod,m.map canE⟩ 0):=hJ (fun q hh=>says_done HP.out (by rw [HML.out];exact q) HLe.out (fun j h0 h1=>hh j h0 (by rw [HML.out] at h1;exact h1)));generalize okK mod m k=ok at *;cases ok with
    | false =>
      have z0:=HR.out.cell 0 _ rfl;have z1:=HR.out.cell 1 _ rfl;have f0:=HR.out.fz 0;have f1:=HR.out.fz 1;have hl0:=HR.out.lt;have HZz:=hJ ((HR.out.set 0 (.string ⟨#[]⟩)).set 1 (.slice none 0 0));have s0:=HZz.out.cell 0 _ rfl;have s1:=HZz.out.cell 1 _ rfl
      go_wp2_with fail
      refine bodyPost_ret (v:=.tuple #[.agg #[.string ⟨#[]⟩,.slice none 0 0],.int .i64 1]) (by simp [results,results15,go_sem,s0,s1,hl0]) rfl ?_;exact ⟨⟨noIfc,1,none,0,rfl,HSb.out (by simp),Sl.empty _ _ _⟩,(hB.setCell (Nat.le_refl _) _).setCell (Nat.le_refl _) _⟩
    | true =>
      go_wp2_with fail
      go_loopw [58] (fun i wq=>∃ j:Nat,j≤k∧i= .int .i64 j∧Hid (∀ q,0<q→q<j→(m.getD (q - 1) default).name≠(m.getD q default).name)∧Below wr.heap.size wr wq) (fun i _=>k - (intOf i).toNat)
      case atStart=>exact ⟨0,Nat.zero_le _,rfl,hJ (fun q _ h=>absurd h (by omega)),Below.refl _ _⟩
      case round =>
       obtain ⟨j,hj,rfl,HT,hB2⟩:=hrel;have HRq:=hJ (HR.out.below hB2 HR.out.lt);have HXq:=hJ (HX.out.below hB2 HX.out.lt);clear x0 x1;have hz2:=hB2.size;by_cases hlt2:j<k
       · have x1:=HXq.out.cell 1 _ rfl
         obtain ⟨g,c',hv,hg,hgl,hsl0,_⟩:=HO.out.open_ (by rw [List.length_map,HML.out];omega);rw [Value.slice.injEq] at hv;obtain ⟨rfl,-,rfl⟩:=hv;have hsl:=hsl0.below hB2;rw [List.length_map,HML.out] at hsl;obtain ⟨_,_,_,_,⟨⟨ap,cp,rfl,_⟩,⟨at_,ct,rfl,_⟩,⟨aq,cq,rfl,_⟩⟩,c0,c1,c2,c3,c4,c5⟩:=hsl.ent j hlt2;rw [Nat.zero_add] at c0 c1 c2 c3 c4 c5;have HNm:=hJ (canE_name m j);have HSl:=hJ hsl;have hgq:g<wr.heap.size:=by omega
         clear hsl0 hsl;generalize (m.map canE).getD j default=u at *;have hBx:=Bx.fresh wr 60 [.string u.name,.slice ap u.scheme.params.length cp,.string u.scheme.result.elem,.string u.scheme.result.shape.row,.slice at_ u.scheme.result.shape.dims.length ct,.slice aq u.scheme.wh.length cq];have v0:=hBx.cell 0 _ rfl;have hb2:Below wr.heap.size wr (wr.alloc (.cells [.string u.name,.slice ap u.scheme.params.length cp,.string u.scheme.result.elem,.string u.scheme.result.shape.row,.slice at_ u.scheme.result.shape.dims.length ct,.slice aq u.scheme.wh.length cq].toArray 60)):=(Below.refl _ _).alloc (Nat.le_refl _) _;have HBq:=hJ (hB2.trans (hb2.mono hz2));have X1:=kAG x1 _ hb2;have HRq2:=hJ (HRq.out.below hb2 HRq.out.lt);have HSl2:=hJ (HSl.out.below hb2)
         go_wp2_with fail
         clear c0 c1 c2 c3 c4 c5 x1 hBx hb2;generalize wr.alloc (.cells [.string u.name,.slice ap u.scheme.params.length cp,.string u.scheme.result.elem,.string u.scheme.result.shape.row,.slice at_ u.scheme.result.shape.dims.length ct,.slice aq u.scheme.wh.length cq].toArray 60)=w6 at *;have v0:=Later.cell v0;have X1:=Later.cell X1;cases j with
         | zero =>
           refine kAA (by kernel_rfl) (by kernel_rfl) ?_
           repeat (go_big_quiet_step (fail))
           refine wpQuiet_nil ?_;rintro _ ⟨t9,rfl⟩
           go_wp2_with fail
           go_roundw
           case rel=>exact ⟨1,by omega,by go_num,hJ (fun q h0 h1=>absurd h1 (by omega)),HBq.out.trans (t9.b.mono HBq.out.size)⟩
           case measure=>simp [intOf];omega
         | succ j =>
           obtain ⟨_,_,_,_,_,hp,_⟩:=HSl2.out.ent j (by omega);rw [Nat.zero_add] at hp;have hp:=Later.cell hp;have HNp:=hJ (canE_name m j);have hk0:(0:Int)<((j+1:Nat):Int):=by omega
           have hki:(((j+1:Nat):Int) - 1)=(j:Int):=by omega
           generalize (m.map canE).getD j default=u0 at *;by_cases hn:(u0.name.toList==u.name.toList)=true
           · have hs8:=HSt.out (by simp) (j+1) (by omega) hlt2 (by
              rw [Nat.add_sub_cancel,← HNp.out,← HNm.out];exact (kA3 _ _).1 hn)
             have HS8:=hJ hs8;clear hs8;refine kAA (by kernel_rfl) (by kernel_rfl) ?_
             repeat (go_big_quiet_step (fail))
             refine wpQuiet_nil ?_;rintro _ ⟨t9,rfl⟩;have HRz:=hJ (HRq2.out.below t9.b HRq2.out.lt);have z0:=HRz.out.cell 0 _ rfl;have z1:=HRz.out.cell 1 _ rfl;have f0:=HRz.out.fz 0;have f1:=HRz.out.fz 1;have hl0:=HRz.out.lt;have HZz:=hJ ((HRz.out.set 0 (.string ⟨#[]⟩)).set 1 (.slice none 0 0));have s0:=HZz.out.cell 0 _ rfl;have s1:=HZz.out.cell 1 _ rfl
             go_wp2_with fail
             refine bodyPost_ret (v:=.tuple #[.agg #[.string ⟨#[]⟩,.slice none 0 0],.int .i64 8]) (by simp [results,results15,go_sem,s0,s1,hl0]) rfl ?_;exact ⟨⟨noIfc,8,none,0,rfl,HS8.out,Sl.empty _ _ _⟩,(((hB.trans ((HBq.out.trans (t9.b.mono HBq.out.size)).mono hB.size))).setCell (Nat.le_refl _) _).setCell (Nat.le_refl _) _⟩
           · have hn:(u0.name.toList==u.name.toList)=false:=by simpa using hn
             have HNe:Hid ((m.getD (j+1 - 1) default).name≠(m.getD (j+1) default).name):=hJ (fun e=>by
              rw [Nat.add_sub_cancel,← HNp.out,← HNm.out] at e;rw [e] at hn;simp at hn)
             refine kAA (by kernel_rfl) (by kernel_rfl) ?_
             repeat (go_big_quiet_step (fail))
             refine wpQuiet_nil ?_;rintro _ ⟨t9,rfl⟩
             go_wp2_with fail
             have HT2:Hid (∀ q,0<q→q<j+1+1→(m.getD (q - 1) default).name≠(m.getD q default).name):=hJ (fun q h0 h1=>by
              rcases Nat.lt_or_ge q (j+1) with r | r
              · exact HT.out q h0 r
              · obtain rfl:q=j+1:=by omega
                exact HNe.out)
             go_roundw
             case rel=>exact ⟨j+1+1,by omega,by go_num,HT2,HBq.out.trans (t9.b.mono HBq.out.size)⟩
             case measure=>simp [intOf];omega
       · have HS0:=hJ (HSd.out (by simp) (fun q h0 h1=>HT.out q h0 (by omega)))
         have hkm:(m.map canE).length=k:=by rw [List.length_map,HML.out]
         obtain ⟨a3,c3,e3,hsl3,hat⟩:=HO.out.slAt;rw [hkm] at e3 hsl3;rw [Value.slice.injEq] at e3;obtain ⟨rfl,-,rfl⟩:=e3;have HSl3:=hJ (hsl3.below hB2);have HAt:=hJ hat;have HKm:=hJ hkm;clear hsl3 hat hkm;have x0:=HXq.out.cell 0 _ rfl;have x1:=HXq.out.cell 1 _ rfl;have z0:=HRq.out.cell 0 _ rfl;have z1:=HRq.out.cell 1 _ rfl;have f0:=HRq.out.fz 0;have f1:=HRq.out.fz 1;have hl0:=HRq.out.lt;have h60:¬((60:Int)<(k:Int)):=by omega
         have HZz:=hJ ((HRq.out.set 0 (.string mod)).set 1 (.slice av k cv));have s0:=HZz.out.cell 0 _ rfl;have s1:=HZz.out.cell 1 _ rfl
         go_wp2_with fail
         refine bodyPost_ret (v:=.tuple #[.agg #[.string mod,.slice av k cv],.int .i64 0]) (by simp [results,results15,go_sem,s0,s1,hl0]) rfl ?_;refine ⟨⟨⟨mod,m.map canE⟩,0,av,cv,?_,HS0.out,?_⟩,((hB.trans (hB2.mono hB.size)).setCell (Nat.le_refl _) _).setCell (Nat.le_refl _) _⟩
         · show _=Ending.returned (.tuple #[.agg #[.string mod,.slice av (m.map canE).length cv],.int .i64 0])
           rw [HKm.out]
         · show Sl REnt (Fr S w) _ av (m.map canE).length cv (m.map canE)
           rw [HKm.out];refine (HSl3.out.frame (fun q hq _=>?_)).mono (fun q hq _=>?_)
           · have hne:q≠w.heap.size:=by
              rcases hq with hq | hq
              · exact hq.2.1
              · have:=(HAt.out q hq).1;omega
             exact (kAB (fun e=>hne e.symm)).trans (kAB (fun e=>hne e.symm))
           · rcases hq with hq | hq
             · exact hq.1
             · exact .inr (by have:=(HAt.out q hq).1;omega)
def kAS (n:Int):Str:=⟨(Lib.itoa n).toArray⟩
def cutS (s:Str):Str:=⟨(Lib.trimSuffix s.data.toList [49]).toArray⟩
def oneB (n:Int) (s:Str):Bool:= !s.toList.isEmpty && (n==1 || n== -1)
def digS (n:Int) (s:Str):Str:=if oneB n s then cutS (kAS n) else kAS n
def kFE (out:Str) (n:Int):Bool:=decide (0≤n) && !out.toList.isEmpty
def kEM (out:Str) (n:Int):Str:=if kFE out n then out++⟨#[43]⟩ else out
def kCO (out:Str) (n:Int) (s:Str):Str:=kEM out n++(digS n s++s)
def sumS (l:List Coef):Str:=l.foldl (fun o t=>kCO o t.c t.v) ⟨#[]⟩
def endB (o:Str) (c:Int):Bool:=(c != 0) || o.toList.isEmpty
def endS (o:Str) (c:Int):Str:=if endB o c then kCO o c ⟨#[]⟩ else o
def kAD (l:Lin):Str:=if kAC l then endS (sumS l.terms) l.const else ⟨#[]⟩
theorem kJK {l:List Coef} {k:Nat} (hk:k<l.length):sumS (l.take (k+1))=kCO (sumS (l.take k)) (l.getD k default).c (l.getD k default).v:=by
 unfold sumS;rw [kBB hk,List.foldl_append];rfl
theorem trim_one (s:Str) (w:World) (hs:s.size≤1000):Calls Tryz.prog 175 #[.string s,.string ⟨#[49]⟩] w fun e w'=>e= .returned (.string (cutS s))∧w=w' :=
 (Tryz.strings_TrimSuffix s ⟨#[49]⟩ w (by omega)).mono fun e w' ⟨h1,h2⟩=>⟨h1,h2.symm⟩
theorem cutS_size (s:Str):(cutS s).size≤s.size:=by
 unfold cutS Lib.trimSuffix
 show (if _ then _ else _:List UInt8).toArray.size≤_
 split
 · rw [List.size_toArray,List.length_take];exact Nat.min_le_right _ _
 · exact Nat.le_refl _
theorem kC6 (n:Int) (h0: -9223372036854775808≤n) (h1:n≤9223372036854775807):(kAS n).size≤21:=by
 have:=Lib.itoa_length_le n h0 h1;unfold kAS
 show (Lib.itoa n).toArray.size≤21
 simpa using this
theorem kIR (n:Int) (h0: -1000000≤n) (h1:n≤1000000) (s:Str) (p:Nat) (out:Str) (w:World) (hb:Bx w p 9 [.string out]) (hos:out.size≤1000000) (hss:s.size≤1000000) (E:Env w) :
 Calls Tryz.prog 174 #[.int .i64 n,.string s,.pointer (some ⟨p,0,none⟩)] w fun e w'=>e= .returned (.tuple #[])∧Bx w' p 9 [.string (kCO out n s)]∧Kb p w w':=by
 have HI:=hJ (kIB n (by omega) (by omega) w E);have HB:=hJ hb;have hsz:=kC6 n (by omega) (by omega);have hcz:(cutS (kAS n)).size≤21:=Nat.le_trans (cutS_size _) hsz;have hpz:(out++(⟨#[43]⟩:Str)).size≤1000001:=by rw [ByteArray.size_append];show out.size+1≤_;omega
 have HP:Hid (kCO out n s=kEM out n++(digS n s++s)):=hJ rfl
 change Hid (Calls _ _ _ _ fun e w'=>e= .returned (.string (kAS n))∧_) at HI
 have HD1:Hid (oneB n s=true→digS n s=cutS (kAS n)):=hJ (fun q=>by unfold digS;rw [if_pos q]);have HD0:Hid (oneB n s=false→digS n s=kAS n):=hJ (fun q=>by unfold digS;rw [if_neg (by rw [q];decide)]);have HQ1:Hid (kFE out n=true→kEM out n=out++⟨#[43]⟩):=hJ (fun q=>by unfold kEM;rw [if_pos q]);have HQ0:Hid (kFE out n=false→kEM out n=out):=hJ (fun q=>by unfold kEM;rw [if_neg (by rw [q];decide)]);clear hb E;generalize kAS n=d at *;go_enter func174,ntmps174
 go_wp2_with fail
 refine HI.out.mono ?_;rintro e w1 ⟨rfl,hb1⟩;have HB1:=hJ (HB.out.below hb1 HB.out.lt);have HK1:Hid (Kb p w w1):=hJ ((Kb.refl p w).later hb1);have y0:=HB1.out.cell 0 _ rfl;have f0:=HB1.out.fz 0;clear hb1;cases hs:s.toList.isEmpty with
 | true =>
   have HD:Hid (digS n s=d):=hJ (HD0.out (by unfold oneB;rw [hs];rfl));by_cases hn0:0≤n
   · cases ho:out.toList.isEmpty with
     | true =>
       have HF:Hid (kCO out n s=out++(d++s)):=hJ (by rw [HP.out,HQ0.out (by unfold kFE;rw [ho];simp),HD.out]);have hsum:(d++s).size≤1000021:=by rw [ByteArray.size_append];omega
       go_wp2_with fail
       go_end0;exact ⟨rfl,by rw [HF.out];exact HB1.out.set 0 _,HK1.out.set _ _⟩
     | false =>
       have HF:Hid (kCO out n s=(out++⟨#[43]⟩)++(d++s)):=hJ (by rw [HP.out,HQ1.out (by unfold kFE;rw [ho,decide_eq_true (by omega)];rfl),HD.out]);have HB2:=hJ (HB1.out.set 0 (.string (out++⟨#[43]⟩)));have y2:=HB2.out.cell 0 _ rfl;have f2:=HB2.out.fz 0;have hsum:(d++s).size≤1000021:=by rw [ByteArray.size_append];omega
       go_wp2_with fail
       go_end0;exact ⟨rfl,by rw [HF.out];exact HB2.out.set 0 _,(HK1.out.set _ _).set _ _⟩
   · have HF:Hid (kCO out n s=out++(d++s)):=hJ (by rw [HP.out,HQ0.out (by unfold kFE;rw [decide_eq_false (by omega)];rfl),HD.out])
     have hsum:(d++s).size≤1000021:=by rw [ByteArray.size_append];omega
     go_wp2_with fail
     go_end0;exact ⟨rfl,by rw [HF.out];exact HB1.out.set 0 _,HK1.out.set _ _⟩
 | false =>
   by_cases hn1:n=1
   · subst hn1
     have HD:Hid (digS 1 s=cutS d):=hJ (HD1.out (by unfold oneB;rw [hs];rfl))
     go_wp2_with fail
     refine (trim_one d _ (by omega)).mono ?_;rintro e _ ⟨rfl,rfl⟩;generalize cutS d=dd at *;cases ho:out.toList.isEmpty with
     | true =>
       have HF:Hid (kCO out 1 s=out++(dd++s)):=hJ (by rw [HP.out,HQ0.out (by unfold kFE;rw [ho];simp),HD.out]);have hsum:(dd++s).size≤1000021:=by rw [ByteArray.size_append];omega
       go_wp2_with fail
       go_end0;exact ⟨rfl,by rw [HF.out];exact HB1.out.set 0 _,HK1.out.set _ _⟩
     | false =>
       have HF:Hid (kCO out 1 s=(out++⟨#[43]⟩)++(dd++s)):=hJ (by rw [HP.out,HQ1.out (by unfold kFE;rw [ho,decide_eq_true (by omega)];rfl),HD.out]);have HB2:=hJ (HB1.out.set 0 (.string (out++⟨#[43]⟩)));have y2:=HB2.out.cell 0 _ rfl;have f2:=HB2.out.fz 0;have hsum:(dd++s).size≤1000021:=by rw [ByteArray.size_append];omega
       go_wp2_with fail
       go_end0;exact ⟨rfl,by rw [HF.out];exact HB2.out.set 0 _,(HK1.out.set _ _).set _ _⟩
   · by_cases hn2:n= -1
     · subst hn2
       have HD:Hid (digS (-1) s=cutS d):=hJ (HD1.out (by unfold oneB;rw [hs];rfl))
       go_wp2_with fail
       refine (trim_one d _ (by omega)).mono ?_;rintro e _ ⟨rfl,rfl⟩;generalize cutS d=dd at *;have HF:Hid (kCO out (-1) s=out++(dd++s)):=hJ (by rw [HP.out,HQ0.out (by unfold kFE;rw [decide_eq_false (by omega)];rfl),HD.out]);have hsum:(dd++s).size≤1000021:=by rw [ByteArray.size_append];omega
       go_wp2_with fail
       go_end0;exact ⟨rfl,by rw [HF.out];exact HB1.out.set 0 _,HK1.out.set _ _⟩
     · have hq1:(n==1)=false:=beq_eq_false_iff_ne.2 hn1
       have hq2:(n== -1)=false:=beq_eq_false_iff_ne.2 hn2;have HD:Hid (digS n s=d):=hJ (HD0.out (by unfold oneB;rw [hs,hq1,hq2];rfl));by_cases hn0:0≤n
       · cases ho:out.toList.isEmpty with
         | true =>
           have HF:Hid (kCO out n s=out++(d++s)):=hJ (by rw [HP.out,HQ0.out (by unfold kFE;rw [ho];simp),HD.out]);have hsum:(d++s).size≤1000021:=by rw [ByteArray.size_append];omega
           go_wp2_with fail
           go_end0;exact ⟨rfl,by rw [HF.out];exact HB1.out.set 0 _,HK1.out.set _ _⟩
         | false =>
           have HF:Hid (kCO out n s=(out++⟨#[43]⟩)++(d++s)):=hJ (by rw [HP.out,HQ1.out (by unfold kFE;rw [ho,decide_eq_true (by omega)];rfl),HD.out]);have HB2:=hJ (HB1.out.set 0 (.string (out++⟨#[43]⟩)));have y2:=HB2.out.cell 0 _ rfl;have f2:=HB2.out.fz 0;have hsum:(d++s).size≤1000021:=by rw [ByteArray.size_append];omega
           go_wp2_with fail
           go_end0;exact ⟨rfl,by rw [HF.out];exact HB2.out.set 0 _,(HK1.out.set _ _).set _ _⟩
       · have HF:Hid (kCO out n s=out++(d++s)):=hJ (by rw [HP.out,HQ0.out (by unfold kFE;rw [decide_eq_false (by omega)];rfl),HD.out])
         have hsum:(d++s).size≤1000021:=by rw [ByteArray.size_append];omega
         go_wp2_with fail
         go_end0;exact ⟨rfl,by rw [HF.out];exact HB1.out.set 0 _,HK1.out.set _ _⟩
theorem partS_size {out:Str} {n:Int} {s:Str} (h0: -1000000≤n) (h1:n≤1000000):(kCO out n s).size≤out.size+22+s.size:=by
 have q1:=kC6 n (by omega) (by omega);have q2:=cutS_size (kAS n);have q3:(digS n s).size≤21:=by unfold digS;split <;> omega
 have q4:(kEM out n).size≤out.size+1:=by
  unfold kEM
  split
  · rw [ByteArray.size_append];exact Nat.le_refl _
  · omega
 unfold kCO;rw [ByteArray.size_append,ByteArray.size_append];omega
theorem kFY {l:List Coef} (hb:Bd 1000000 l) (hn:∀ t ∈ l,kAV t.v=true):∀ k,k≤l.length→(sumS (l.take k)).size≤k * 100
 | 0,_=>Nat.zero_le _
 | k+1,hk=>by
   have ih:=kFY hb hn k (by omega);have hm:=kAJ (l:=l) (k:=k) (by omega);have q1:=kCP (hn _ hm);have q2:=hb _ hm;rw [kJK (by omega)];have:=partS_size (out:=sumS (l.take k)) (s:=(l.getD k default).v) q2.1 q2.2;omega
theorem kDK (x:Lin):(kAD x).size≤2000:=by
 unfold kAD
 split
 · rename_i h
   obtain ⟨_,_,hb,hn,hc,hl⟩:=kBD h;have q:=kFY hb hn x.terms.length (Nat.le_refl _);rw [List.take_length] at q;unfold endS
   split
   · have:=partS_size (out:=sumS x.terms) (s:=⟨#[]⟩) hc.1 hc.2
     have e:(⟨#[]⟩:Str).size=0:=rfl;omega
   · omega
 · exact Nat.zero_le _
theorem kHP {S:Blk} {x:Lin} {cs:List Value} {w:World} (h:RLin.rd S w cs x) (hz:szL x) (E:Env w) :
 Calls Tryz.prog 114 #[.agg cs.toArray] w fun e w'=>e= .returned (.string (kAD x))∧Below w.heap.size w w':=by
 have HV:Hid (∀ W,Below w.heap.size w W→Calls Tryz.prog 85 #[.agg cs.toArray] W fun e w'=>e= .returned (.bool (kAC x))∧Below W.heap.size W w'):=hJ (fun W hW=>kDU (RLin.below h hW) hz (E.below hW));have HE:=hJ (fun (W:World) (hW:Below w.heap.size w W)=>E.below hW);obtain ⟨t,rfl,a,c,rfl,hs⟩:=h;have hm:=hs.small;have HLn:=hJ hs.len;have HS0:=hJ hs;clear hs E hz;generalize hl1:x.terms.length=n at *;have HL:=hJ hl1;clear hl1;obtain ⟨B0,ya,hW0⟩:=box1 w 49 [.int .i64 x.const,.slice a n c];have xa0:=box0 ya 0 _ rfl;have xa1:=box0 ya 1 _ rfl;clear ya;have HC:=hJ (HV.out _ B0.out);cases hv:kAC x with
 | false =>
   have HF:Hid (kAD x=⟨#[]⟩):=hJ (by unfold kAD;rw [hv];rfl);rw [hv] at HC;go_enter func114,ntmps114
   go_wp2_with fail
   refine (HC.out).mono ?_;rintro e w1 ⟨rfl,hb⟩
   go_wp2_with fail
   go_ret;exact ⟨by rw [HF.out];rfl,B0.out.trans (hb.mono B0.out.size)⟩
 | true =>
   have HF:Hid (kAD x=endS (sumS x.terms) x.const):=hJ (by unfold kAD;rw [hv];rfl);have HVp:=hJ (kBD hv);rw [hv] at HC;clear HV hv;go_enter func114,ntmps114
   go_wp2_with fail
   refine HC.out.mono ?_;rintro e w1 ⟨rfl,hb⟩;have HW1:Hid (Below w.heap.size w w1):=hJ (B0.out.trans (hb.mono B0.out.size));have HS:=hJ (HS0.out.below HW1.out);have g0:=kAG xa0 _ hb;have g1:=kAG xa1 _ hb;have hlw:w.heap.size<w1.heap.size:=kCR g1;clear xa0 xa1 hb HC HS0 B0 hW0
   go_wp2_with fail
   go_loopw [14] (fun i wr=>∃ k:Nat,k≤n∧i= .int .i64 k∧Hid (Bx wr w1.heap.size 9 [.string (sumS (x.terms.take k))])∧Below w1.heap.size w1 wr) (fun i _=>n - (intOf i).toNat)
   case atStart=>exact ⟨0,Nat.zero_le _,rfl,hJ (Bx.fresh w1 9 [.string ⟨#[]⟩]),(Below.refl _ _).alloc (Nat.le_refl _) _⟩
   case round =>
    obtain ⟨k,hk,rfl,HX,hB⟩:=hrel;have r0:=kAG g0 _ hB;have r1:=kAG g1 _ hB;have HEr:=hJ (fun (W:World) (hW:Below wr.heap.size wr W)=>HE.out W (HW1.out.trans ((hB.trans (hW.mono hB.size)).mono HW1.out.size)));have y0:=HX.out.cell 0 _ rfl;have hlp:=HX.out.lt;by_cases hlt:k<n
    · obtain ⟨b,off,rfl,hbW,_⟩:=HS.out.form k hlt
      obtain ⟨c0,c1⟩:=(HS.out.below hB).coef k hlt;have hkl:k<x.terms.length:=by rw [HL.out];exact hlt
      have HNx:=hJ (kJK (l:=x.terms) hkl);have hbd:=HVp.out.2.2.1 _ (kAJ hkl);have hnz:=kCP (HVp.out.2.2.2.1 _ (kAJ hkl));have hsz:=kFY HVp.out.2.2.1 HVp.out.2.2.2.1 k (by omega);have hl12:=HVp.out.2.2.2.2.2;generalize x.terms.getD k default=y at *;generalize sumS (x.terms.take k)=o at *;have HA:Hid (Below wr.heap.size wr (wr.alloc (.cells #[.string y.v,.int .i64 y.c] 46))):=hJ ((Below.refl _ _).alloc (Nat.le_refl _) _);have HCp:=hJ (kIR y.c hbd.1 hbd.2 y.v w1.heap.size o _ (HX.out.below HA.out hlp) (by omega) (by omega) (HEr.out _ HA.out));clear hkl hbd hnz hsz hl12
      go_wp2_with fail
      refine HCp.out.mono ?_;rintro e w4 ⟨rfl,hbx,hkb⟩;have HB4:Hid (Below w1.heap.size w1 w4):=hJ ((hB.trans (HA.out.mono hB.size)).trans (hkb.below (Nat.le_refl _) (by have:=hB.size;simp;omega)))
      go_wp2_with fail
      go_roundw
      case rel=>exact ⟨k+1,by omega,by go_num,hJ (by rw [HNx.out];exact hbx),HB4.out⟩
      case measure=>simp [intOf];omega
    · have HAll:Hid (sumS (x.terms.take k)=sumS x.terms):=hJ (by rw [List.take_of_length_le (by rw [HL.out];omega)])
      have hsz:=kFY HVp.out.2.2.1 HVp.out.2.2.2.1 k (by rw [HL.out];omega);have hl12:k≤12:=by have q:=HVp.out.2.2.2.2.2;rw [HL.out] at q;omega
      have hcs:=HVp.out.2.2.2.2.1;rw [HAll.out] at HX y0 hsz;have HEd:Hid (endS (sumS x.terms) x.const=if endB (sumS x.terms) x.const then kCO (sumS x.terms) x.const ⟨#[]⟩ else sumS x.terms):=hJ rfl;have HEb:Hid (endB (sumS x.terms) x.const=((x.const != 0) || (sumS x.terms).toList.isEmpty)):=hJ rfl;generalize sumS x.terms=o at *;have HCp:=hJ (kIR x.const hcs.1 hcs.2 ⟨#[]⟩ w1.heap.size o _ HX.out (by omega) (by show (0:Nat)≤_;omega) (HEr.out _ (Below.refl _ _)));have HWr:=hJ (HW1.out.trans (hB.mono HW1.out.size));by_cases hc0:x.const=0
      · have hd0:(x.const != 0)=false:=by rw [hc0];rfl
        clear hcs;cases ho:o.toList.isEmpty with
        | true =>
          have hq:endB o x.const=true:=by rw [HEb.out,hd0,ho];rfl
          clear hc0;have HF2:Hid (kAD x=kCO o x.const ⟨#[]⟩):=hJ (by rw [HF.out,HEd.out,hq];rfl)
          go_wp2_with fail
          refine HCp.out.mono ?_;rintro e w4 ⟨rfl,hbx,hkb⟩;have z0:=hbx.cell 0 _ rfl
          go_wp2_with fail
          go_ret;exact ⟨by rw [HF2.out];rfl,HWr.out.trans (hkb.below (by have:=HW1.out.size;omega) HWr.out.size)⟩
        | false =>
          have hq:endB o x.const=false:=by rw [HEb.out,hd0,ho];rfl
          have HF2:Hid (kAD x=o):=hJ (by rw [HF.out,HEd.out,hq];rfl);clear hc0
          go_wp2_with fail
          go_ret;exact ⟨by rw [HF2.out];rfl,HWr.out⟩
      · have hd0:(x.const != 0)=true:=bne_iff_ne.2 hc0
        have hq:endB o x.const=true:=by rw [HEb.out,hd0];rfl
        clear hc0;have HF2:Hid (kAD x=kCO o x.const ⟨#[]⟩):=hJ (by rw [HF.out,HEd.out,hq];rfl)
        go_wp2_with fail
        refine HCp.out.mono ?_;rintro e w4 ⟨rfl,hbx,hkb⟩;have z0:=hbx.cell 0 _ rfl
        go_wp2_with fail
        go_ret;exact ⟨by rw [HF2.out];rfl,HWr.out.trans (hkb.below (by have:=HW1.out.size;omega) HWr.out.size)⟩
def kAO (l:List Str) (sep:Str):Str:=⟨(Lib.join (l.map (·.data.toList)) sep.data.toList).toArray⟩
theorem lens_le {M:Nat}:∀ l:List Str,(∀ s ∈ l,s.size≤M)→Lib.lens (l.map (·.data.toList))≤l.length * M
 | [],_=>by simp [Lib.lens]
 | s :: l,h=>by
   have ih:=lens_le l (fun x hx=>h x (List.mem_cons_of_mem _ hx));have h1:s.data.toList.length≤M:=h s (List.mem_cons_self ..);have e:Lib.lens ((s :: l).map (·.data.toList))=s.data.toList.length+Lib.lens (l.map (·.data.toList)):=by simp [Lib.lens]
   rw [e,List.length_cons,Nat.succ_mul];omega
theorem join_le {M:Nat} (l:List Str) (sep:Str) (h:∀ s ∈ l,s.size≤M):(Lib.join (l.map (·.data.toList)) sep.data.toList).length≤l.length * (M+sep.size):=by
 cases l with
 | nil=>simp [Lib.join_nil]
 | cons s l =>
   have q:=lens_le (s :: l) h;rw [List.map_cons] at q ⊢;rw [Lib.join_length];have e:sep.data.toList.length=sep.size:=rfl;rw [e,List.length_map,Nat.mul_add];rw [List.length_cons] at q ⊢;have:sep.size * l.length≤(l.length+1) * sep.size:=by rw [Nat.mul_comm];exact Nat.mul_le_mul_right _ (by omega)
   omega
theorem kC5 {M:Nat} (l:List Str) (sep:Str) (h:∀ s ∈ l,s.size≤M):(kAO l sep).size≤l.length * (M+sep.size):=by
 have:=join_le l sep h
 show (Lib.join _ _).toArray.size≤_
 simpa using this
theorem kEE {S:Blk} {l:List Str} {a:Option Addr} {n c:Nat} {w:World} (h:Sl RStr S w a n c l) (sep:Str) (hn:n≤1000) (hz:∀ s ∈ l,s.size≤10000000) (hs:sep.size≤1000) :
 Calls Tryz.prog 90 #[.slice a n c,.string sep] w fun e w'=>e= .returned (.string (kAO l sep))∧Below w.heap.size w w':=by
 have hln:=h.len;by_cases h0:n=0
 · subst h0
   obtain rfl:l=[]:=List.eq_nil_of_length_eq_zero hln;exact (Tryz.strings_Join_none a c sep w).mono fun e w' ⟨h1,h2⟩=>⟨h1,h2 ▸ Below.refl _ _⟩
 · obtain ⟨b,off,rfl,hb,_⟩:=h.form 0 (by omega)
   have hlen:=join_le l sep hz;have hm:l.length * (10000000+sep.size)≤1000 * (10000000+1000):=Nat.mul_le_mul (by omega) (by omega);subst hln;have hlim:=Nat.le_trans hlen (Nat.le_trans hm (by decide:1000 * (10000000+1000)≤140737488355328))
   exact Tryz.strings_Join b off c l sep w (fun j x hx=>by
    obtain ⟨cs,hr,hc⟩:=h.cells j x hx;have hr:cs=[.string x]:=hr;subst hr;have:=hc 0 _ rfl;have e:RStr.size=1:=rfl;rw [e,Nat.mul_one,Nat.add_zero] at this;exact this) hb (by omega) h.cap hlim
def rowL (s:Shp):List Str:=if s.row.toList.isEmpty then [] else [s.row++⟨#[46,46]⟩]
def kA9 (s:Shp):Str:=((⟨#[91]⟩:Str)++kAO (rowL s++s.dims.map kAD) ⟨#[44,32]⟩)++⟨#[93]⟩
def kCC (s:Shp):Str:=if kAF s then kA9 s else ⟨#[]⟩
theorem kBU {α β :Type} [Inhabited α] (f: α → β) {l:List α} {k:Nat} (hk:k<l.length):(l.take (k+1)).map f=(l.take k).map f++[f (l.getD k default)]:=by
 rw [kBB hk,List.map_append];rfl
theorem kH5 (s:Shp) (hr:s.row.size≤10000):∀ x ∈ rowL s++s.dims.map kAD,x.size≤11000:=by
 intro x hx;rcases List.mem_append.1 hx with q | q
 · unfold rowL at q
   split at q
   · simp at q
   · rw [List.mem_singleton] at q
     subst q;rw [ByteArray.size_append];have e:(⟨#[46,46]⟩:Str).size=2:=rfl;omega
 · obtain ⟨y,_,rfl⟩:=List.mem_map.1 q
   have:=kDK y;omega
theorem rowL_len (s:Shp):(rowL s).length≤1:=by unfold rowL;split <;> simp
theorem textH_size {s:Shp} (hr:s.row.size≤10000) (hd:s.dims.length≤6):(kA9 s).size≤100000:=by
 have q:=kC5 (rowL s++s.dims.map kAD) ⟨#[44,32]⟩ (kH5 s hr);have q2:=rowL_len s;have e:(⟨#[44,32]⟩:Str).size=2:=rfl;rw [e,List.length_append,List.length_map] at q;have q3:((rowL s).length+s.dims.length) * (11000+2)≤7 * 11002:=Nat.mul_le_mul (by omega) (by omega);unfold kA9;rw [ByteArray.size_append,ByteArray.size_append];have e1:(⟨#[91]⟩:Str).size=1:=rfl;have e2:(⟨#[93]⟩:Str).size=1:=rfl;omega
theorem shape_text {S:Blk} {x:Shp} {cs:List Value} {w:World} (h:RShp.rd S w cs x) (hz:szH x) (hd6:x.dims.length≤6) (E:Env w) :
 Calls Tryz.prog 165 #[.agg cs.toArray] w fun e w'=>e= .returned (.string (kA9 x))∧Below w.heap.size w w':=by
 obtain ⟨t,rfl,a,c,rfl,hs⟩:=h;have hm:=hs.small;have HZ:=hJ hz.2;have hrz:=hz.1;have HPs:=hJ (kH5 x hz.1);have HE:=hJ (fun (W:World) (hW:Below w.heap.size w W)=>E.below hW);have HT:Hid (kA9 x=((⟨#[91]⟩:Str)++kAO (rowL x++x.dims.map kAD) ⟨#[44,32]⟩)++⟨#[93]⟩):=hJ rfl;have HJz:=hJ (kC5 (rowL x++x.dims.map kAD) ⟨#[44,32]⟩ (kH5 x hz.1));have HS0:=hJ hs;have hrl:=rowL_len x;clear hs E hz;generalize hn:x.dims.length=n at *;have HL:=hJ hn;clear hn;obtain ⟨B0,ya,hW0⟩:=box1 w 52 [.string x.row,.slice a n c];have xa0:=box0 ya 0 _ rfl;have xa1:=box0 ya 1 _ rfl;clear ya;have HS:=hJ (HS0.out.below B0.out);have HEW:=hJ (fun (W':World) (hW:Below (w.alloc (.cells #[.string x.row,.slice a n c] 52)).heap.size (w.alloc (.cells #[.string x.row,.slice a n c] 52)) W')=>HE.out W' (B0.out.trans (hW.mono B0.out.size)));clear HS0 HE;go_enter func165,ntmps165;cases hro:x.row.toList.isEmpty with
 | true =>
   have HR0:Hid (rowL x=[]):=hJ (by unfold rowL;rw [hro];rfl)
   go_wp2_with fail
   generalize (w.alloc (.cells #[.string x.row,.slice a n c] 52))=W at *;have HO0:Hid (Own RStr 9 (fun _=>False) W W.heap.size (.slice none 0 0) (rowL x++(x.dims.take 0).map kAD)):=hJ (by rw [HR0.out];exact Own.nil _ _ _ _ _);have HB0:Hid (Below W.heap.size W W):=hJ (Below.refl _ _)
   go_loopw [3,18] (fun v i wr=>∃ k:Nat,k≤n∧i= .int .i64 k∧Hid (Own RStr 9 (fun _=>False) wr W.heap.size v (rowL x++(x.dims.take k).map kAD))∧Below W.heap.size W wr) (fun _ i _=>n - (intOf i).toNat)
   case atStart=>exact ⟨0,Nat.zero_le _,rfl,HO0,HB0.out⟩
   case round =>
    obtain ⟨k,hk,rfl,HO,hB⟩:=hrel;have hsz:=hB.size;by_cases hlt:k<n
    · obtain ⟨b,off,rfl,hbW,_⟩:=HS.out.form k hlt
      obtain ⟨_,hr,⟨ta,tc,rfl,_⟩,c0,c1⟩:=(HS.out.below hB).lin k hlt;have hkl:k<x.dims.length:=by rw [HL.out];exact hlt
      have HNx:=hJ (kBU kAD hkl);have HZk:=hJ (HZ.out _ (kAJ hkl));have HR:=hJ hr;have HLen:Hid ((rowL x++(x.dims.take k).map kAD).length≤7):=hJ (by rw [List.length_append,List.length_map,List.length_take];omega);clear hr hkl;generalize x.dims.getD k default=y at *;have HA:Hid (Below wr.heap.size wr (wr.alloc (.cells #[.int .i64 y.const,.slice ta y.terms.length tc] 49))):=hJ ((Below.refl _ _).alloc (Nat.le_refl _) _);have HC:=hJ (kHP (RLin.below HR.out HA.out) HZk.out (HEW.out _ (hB.trans (HA.out.mono hB.size))));generalize kAD y=o at *;obtain ⟨va,vm,vc,rfl⟩:=HO.out.shape
      go_wp2_with fail
      refine HC.out.mono ?_;rintro e w4 ⟨rfl,hb4⟩;have HB4:=hJ (HA.out.trans (hb4.mono HA.out.size));have hz4:=HB4.out.size
      go_wp2_with (at_builtin;refine kA4 kEP rfl _ _ rfl W.heap.size _ _ rfl ((HO.out.below HB4.out).alloc _) _ o [.string o] rfl rfl (kA6 9 (by (simp only [kAK,kAI,Array.getElem?_push,Array.size_push];simp))) (by have:=HLen.out;omega) (by have:=HLen.out;unfold maxLen;omega) (by simp;omega) ?_;intro v9 w9 hown9 hb9 hk9;obtain ⟨a9,m9,c9,rfl⟩:=hown9.shape)
      go_roundw
      case rel=>exact ⟨k+1,by omega,by go_num,hJ (by rw [HNx.out,← List.append_assoc];exact hown9),(hB.trans ((HB4.out.alloc HB4.out.size _).mono hB.size)).trans hb9⟩
      case measure=>simp [intOf];omega
    · have HAll:Hid (rowL x++(x.dims.take k).map kAD=rowL x++x.dims.map kAD):=hJ (by rw [List.take_of_length_le (by rw [HL.out];omega)])
      rw [HAll.out] at HO;obtain ⟨va,vc,rfl,hsl⟩:=HO.out.sl;have hlen:(rowL x++x.dims.map kAD).length≤7:=by rw [List.length_append,List.length_map,HL.out];omega
      have HC:=hJ (kEE hsl ⟨#[44,32]⟩ (by omega) (fun s hs=>Nat.le_trans (HPs.out s hs) (by decide)) (by decide))
      have hjz:(kAO (rowL x++x.dims.map kAD) ⟨#[44,32]⟩).size≤100000:=by
       have q:=HJz.out;have e:(⟨#[44,32]⟩:Str).size=2:=rfl;have q3:(rowL x++x.dims.map kAD).length * (11000+(⟨#[44,32]⟩:Str).size)≤7 * 11002:=Nat.mul_le_mul hlen (by rw [e];omega);omega
      clear hsl HJz HAll HPs;generalize kAO (rowL x++x.dims.map kAD) ⟨#[44,32]⟩=j at *;generalize (rowL x++x.dims.map kAD).length=m at *;have hjz2:((⟨#[91]⟩:Str)++j).size≤100001:=by rw [ByteArray.size_append];show 1+j.size≤_;omega
      go_wp2_with fail
      refine HC.out.mono ?_;rintro e w4 ⟨rfl,hb4⟩
      go_wp2_with fail
      go_ret;exact ⟨by rw [HT.out];rfl,B0.out.trans ((hB.trans (hb4.mono hB.size)).mono B0.out.size)⟩
 | false =>
   have HR0:Hid (rowL x=[x.row++⟨#[46,46]⟩]):=hJ (by unfold rowL;rw [hro];rfl);have hrs:(x.row++(⟨#[46,46]⟩:Str)).size≤10002:=by rw [ByteArray.size_append];show x.row.size+2≤_;omega
   go_wp2_with (at_builtin;refine kA4 kEP rfl _ _ rfl (w.alloc (.cells #[.string x.row,.slice a n c] 52)).heap.size _ [] rfl (Own.nil _ _ (fun _=>False) _ _) _ (x.row++(⟨#[46,46]⟩:Str)) [.string (x.row++(⟨#[46,46]⟩:Str))] rfl rfl (kA6 9 (by (simp only [kAK,kAI,Array.getElem?_push,Array.size_push];simp))) (by simp) (by unfold maxLen;simp) (by simp) ?_;intro v9 w9 hown9 hb9 hk9;obtain ⟨a9,m9,c9,rfl⟩:=hown9.shape;have HB0:=hJ (((Below.refl _ _).alloc (Nat.le_refl _) _).trans hb9);have r0:=kAG xa0 _ HB0.out;have r1:=kAG xa1 _ HB0.out)
   generalize (w.alloc (.cells #[.string x.row,.slice a n c] 52))=W at *;have HO0:Hid (Own RStr 9 (fun _=>False) w9 W.heap.size (.slice a9 m9 c9) (rowL x++(x.dims.take 0).map kAD)):=hJ (by rw [HR0.out];exact hown9);clear hown9 hb9 hk9
   go_loopw [3,18] (fun v i wr=>∃ k:Nat,k≤n∧i= .int .i64 k∧Hid (Own RStr 9 (fun _=>False) wr W.heap.size v (rowL x++(x.dims.take k).map kAD))∧Below W.heap.size W wr) (fun _ i _=>n - (intOf i).toNat)
   case atStart=>exact ⟨0,Nat.zero_le _,rfl,HO0,HB0.out⟩
   case round =>
    obtain ⟨k,hk,rfl,HO,hB⟩:=hrel;have hsz:=hB.size;by_cases hlt:k<n
    · obtain ⟨b,off,rfl,hbW,_⟩:=HS.out.form k hlt
      obtain ⟨_,hr,⟨ta,tc,rfl,_⟩,c0,c1⟩:=(HS.out.below hB).lin k hlt;have hkl:k<x.dims.length:=by rw [HL.out];exact hlt
      have HNx:=hJ (kBU kAD hkl);have HZk:=hJ (HZ.out _ (kAJ hkl));have HR:=hJ hr;have HLen:Hid ((rowL x++(x.dims.take k).map kAD).length≤7):=hJ (by rw [List.length_append,List.length_map,List.length_take];omega);clear hr hkl;generalize x.dims.getD k default=y at *;have HA:Hid (Below wr.heap.size wr (wr.alloc (.cells #[.int .i64 y.const,.slice ta y.terms.length tc] 49))):=hJ ((Below.refl _ _).alloc (Nat.le_refl _) _);have HC:=hJ (kHP (RLin.below HR.out HA.out) HZk.out (HEW.out _ (hB.trans (HA.out.mono hB.size))));generalize kAD y=o at *;obtain ⟨va,vm,vc,rfl⟩:=HO.out.shape
      go_wp2_with fail
      refine HC.out.mono ?_;rintro e w4 ⟨rfl,hb4⟩;have HB4:=hJ (HA.out.trans (hb4.mono HA.out.size));have hz4:=HB4.out.size
      go_wp2_with (at_builtin;refine kA4 kEP rfl _ _ rfl W.heap.size _ _ rfl ((HO.out.below HB4.out).alloc _) _ o [.string o] rfl rfl (kA6 9 (by (simp only [kAK,kAI,Array.getElem?_push,Array.size_push];simp))) (by have:=HLen.out;omega) (by have:=HLen.out;unfold maxLen;omega) (by simp;omega) ?_;intro v9 w9 hown9 hb9 hk9;obtain ⟨a9,m9,c9,rfl⟩:=hown9.shape)
      go_roundw
      case rel=>exact ⟨k+1,by omega,by go_num,hJ (by rw [HNx.out,← List.append_assoc];exact hown9),(hB.trans ((HB4.out.alloc HB4.out.size _).mono hB.size)).trans hb9⟩
      case measure=>simp [intOf];omega
    · have HAll:Hid (rowL x++(x.dims.take k).map kAD=rowL x++x.dims.map kAD):=hJ (by rw [List.take_of_length_le (by rw [HL.out];omega)])
      rw [HAll.out] at HO;obtain ⟨va,vc,rfl,hsl⟩:=HO.out.sl;have hlen:(rowL x++x.dims.map kAD).length≤7:=by rw [List.length_append,List.length_map,HL.out];omega
      have HC:=hJ (kEE hsl ⟨#[44,32]⟩ (by omega) (fun s hs=>Nat.le_trans (HPs.out s hs) (by decide)) (by decide))
      have hjz:(kAO (rowL x++x.dims.map kAD) ⟨#[44,32]⟩).size≤100000:=by
       have q:=HJz.out;have e:(⟨#[44,32]⟩:Str).size=2:=rfl;have q3:(rowL x++x.dims.map kAD).length * (11000+(⟨#[44,32]⟩:Str).size)≤7 * 11002:=Nat.mul_le_mul hlen (by rw [e];omega);omega
      clear hsl HJz HAll HPs;generalize kAO (rowL x++x.dims.map kAD) ⟨#[44,32]⟩=j at *;generalize (rowL x++x.dims.map kAD).length=m at *;have hjz2:((⟨#[91]⟩:Str)++j).size≤100001:=by rw [ByteArray.size_append];show 1+j.size≤_;omega
      go_wp2_with fail
      refine HC.out.mono ?_;rintro e w4 ⟨rfl,hb4⟩
      go_wp2_with fail
      go_ret;exact ⟨by rw [HT.out];rfl,B0.out.trans ((hB.trans (hb4.mono hB.size)).mono B0.out.size)⟩
theorem shape_Print {S:Blk} {x:Shp} {cs:List Value} {w:World} (h:RShp.rd S w cs x) (hz:szH x) (E:Env w) :
 Calls Tryz.prog 166 #[.agg cs.toArray] w fun e w'=>e= .returned (.tuple #[.string (kCC x),.int .i64 (if kAF x then 0 else 1)])∧Below w.heap.size w w':=by
 have HV:Hid (∀ W,Below w.heap.size w W→Calls Tryz.prog 143 #[.agg cs.toArray] W fun e w'=>e= .returned (.bool (kAF x))∧Below W.heap.size W w'):=hJ (fun W hW=>kD5 (RShp.below h hW) hz (E.below hW));have HX:Hid (kAF x=true→∀ W,Below w.heap.size w W→Calls Tryz.prog 165 #[.agg cs.toArray] W fun e w'=>e= .returned (.string (kA9 x))∧Below W.heap.size W w'):=hJ (fun hv W hW=>shape_text (RShp.below h hW) hz (kF2 hv).2.1 (E.below hW));obtain ⟨t,rfl,a,c,rfl,hs⟩:=h;clear hs E hz;obtain ⟨B0,ya,hW0⟩:=box1 w 52 [.string x.row,.slice a x.dims.length c];have xa0:=box0 ya 0 _ rfl;have xa1:=box0 ya 1 _ rfl;clear ya;have HC:=hJ (HV.out _ B0.out);cases hv:kAF x with
 | false =>
   have HF:Hid (kCC x=⟨#[]⟩):=hJ (by unfold kCC;rw [hv];rfl);rw [hv] at HC;go_enter func166,ntmps166
   go_wp2_with fail
   refine (HC.out).mono ?_;rintro e w1 ⟨rfl,hb⟩
   go_wp2_with fail
   go_returns
   exact ⟨by rw [HF.out];rfl,B0.out.trans (hb.mono B0.out.size)⟩
 | true =>
   have HF:Hid (kCC x=kA9 x):=hJ (by unfold kCC;rw [hv];rfl);have HX2:=hJ (HX.out hv);rw [hv] at HC;go_enter func166,ntmps166
   go_wp2_with fail
   refine (HC.out).mono ?_;rintro e w1 ⟨rfl,hb⟩;have HW1:=hJ (B0.out.trans (hb.mono B0.out.size));have g0:=kAG xa0 _ hb;have g1:=kAG xa1 _ hb;have hlw:w.heap.size<w1.heap.size:=kCR g1;have HC2:=hJ (HX2.out _ HW1.out)
   go_wp2_with fail
   refine (HC2.out).mono ?_;rintro e w2 ⟨rfl,hb2⟩
   go_wp2_with fail
   go_returns
   exact ⟨by rw [HF.out];rfl,HW1.out.trans (hb2.mono HW1.out.size)⟩
def kAQ (t:Typ):Str:=if (kCC t.shape).toList==[91,93] then t.elem else kCC t.shape++t.elem
theorem kHZ {S:Blk} {x:Typ} {cs:List Value} {w:World} (h:RTyp.rd S w cs x) (hz:szT x) (E:Env w) :
 Calls Tryz.prog 107 #[.agg cs.toArray] w fun e w'=>e= .returned (.string (kAQ x))∧Below w.heap.size w w':=by
 obtain ⟨t,rfl,a,c,rfl,hs⟩:=h
 have HX:Hid (∀ W,Below w.heap.size w W→Calls Tryz.prog 166 #[.agg #[.string x.shape.row,.slice a x.shape.dims.length c]] W fun e w'=>e= .returned (.tuple #[.string (kCC x.shape),.int .i64 (if kAF x.shape then 0 else 1)])∧Below W.heap.size W w') :=
  hJ (fun W hW=>shape_Print (cs:=[.string x.shape.row,.slice a x.shape.dims.length c]) ⟨_,rfl,a,c,rfl,hs.below hW⟩ hz.2 (E.below hW))
 have hez:x.elem.size≤10000:=hz.1
 have hpz:(kCC x.shape).size≤100000:=by
  unfold kCC
  split
  · rename_i hv;exact textH_size hz.2.1 (kF2 hv).2.1
  · exact Nat.zero_le _
 have HT:Hid (kAQ x=if (kCC x.shape).toList==[91,93] then x.elem else kCC x.shape++x.elem):=hJ rfl;clear hs E hz;obtain ⟨B0,ya,hW0⟩:=box1 w 54 [.string x.elem,.string x.shape.row,.slice a x.shape.dims.length c];have xa0:=box0 ya 0 _ rfl;have xa1:=box0 ya 1 _ rfl;have xa2:=box0 ya 2 _ rfl;clear ya;have HC:=hJ (HX.out _ B0.out);generalize kCC x.shape=p at *;generalize (if kAF x.shape then (0:Int) else 1)=ev at *;by_cases hq:(p.toList==[91,93])=true
 · have HF:Hid (kAQ x=x.elem):=hJ (by rw [HT.out,if_pos hq])
   go_enter func107,ntmps107
   go_wp2_with fail
   refine (HC.out).mono ?_;rintro e w1 ⟨rfl,hb⟩;have g0:=kAG xa0 _ hb
   go_wp2_with fail
   go_ret;exact ⟨by rw [HF.out];rfl,B0.out.trans (hb.mono B0.out.size)⟩
 · have HF:Hid (kAQ x=p++x.elem):=hJ (by rw [HT.out,if_neg hq])
   have hq:(p.toList==[91,93])=false:=by simpa using hq
   go_enter func107,ntmps107
   go_wp2_with fail
   refine (HC.out).mono ?_;rintro e w1 ⟨rfl,hb⟩;have g0:=kAG xa0 _ hb
   go_wp2_with fail
   go_ret;exact ⟨by rw [HF.out];rfl,B0.out.trans (hb.mono B0.out.size)⟩
theorem joinedTyp {S:Blk} (l:List Typ) (a:Option Addr) (n c:Nat) (w:World) (h:Sl RTyp S w a n c l) (g:FuncId) (hen:Ent1 g) (pr:Typ→Str) (hp:∀ (W:World) (x:Typ) (cs:List Value),Below w.heap.size w W→x ∈ l→RTyp.rd S W cs x→Calls Tryz.prog g #[.agg cs.toArray] W fun e w'=>e= .returned (.string (pr x))∧Below W.heap.size W w') (hsz:∀ x ∈ l,(pr x).size≤1000000) (hn:n≤100) :
 Calls Tryz.prog 112 #[.slice a n c,.func (.func g) #[] #[]] w fun e w'=>e= .returned (.string (kAO (l.map pr) ⟨#[44,32]⟩))∧Below w.heap.size w w':=by
 have HS:=hJ h;have HL:=hJ h.len;have HP:=hJ hp;have HZ:=hJ hsz;have hm:=h.small;clear h hp hsz;go_enter func112,ntmps112
 go_wp2_with fail
 go_loopw [5,10] (fun v i wr=>∃ k:Nat,k≤n∧i= .int .i64 k∧Hid (Own RStr 9 (fun _=>False) wr w.heap.size v ((l.take k).map pr))∧Below w.heap.size w wr) (fun _ i _=>n - (intOf i).toNat)
 case atStart=>exact ⟨0,Nat.zero_le _,rfl,Own.nil _ _ _ _ _,Below.refl _ _⟩
 case round =>
  obtain ⟨k,hk,rfl,HO,hB⟩:=hrel;have hz:=hB.size;by_cases hlt:k<n
  · obtain ⟨b,off,rfl,hbW,_⟩:=HS.out.form k hlt
    obtain ⟨_,hr,⟨ta,tc,rfl,_⟩,c0,c1,c2⟩:=(HS.out.below hB).typ k hlt;have hkl:k<l.length:=by rw [HL.out];exact hlt
    have HNx:=hJ (kBU pr hkl);have HM:=hJ (kAJ hkl);have HR:=hJ hr;have HLen:Hid (((l.take k).map pr).length≤100):=hJ (by rw [List.length_map,List.length_take];omega);clear hr hkl;generalize l.getD k default=y at *;have HA:Hid (Below wr.heap.size wr (wr.alloc (.cells [.string y.elem,.string y.shape.row,.slice ta y.shape.dims.length tc].toArray 54))):=hJ ((Below.refl _ _).alloc (Nat.le_refl _) _);have HC:=hJ (HP.out _ _ _ (hB.trans (HA.out.mono hB.size)) HM.out (RTyp.below HR.out HA.out));generalize pr y=o at *;obtain ⟨va,vm,vc,rfl⟩:=HO.out.shape
    go_wp2_with (first | (go_at_fn g;refine HC.out.mono ?_;rintro e w4 ⟨rfl,hb4⟩;have HB4:=hJ (HA.out.trans (hb4.mono HA.out.size));have hz4:=HB4.out.size) | (at_builtin;refine kA4 kEP rfl _ _ rfl w.heap.size _ _ rfl ((HO.out.below HB4.out).alloc _) _ o [.string o] rfl rfl (kA6 9 (by (simp only [kAK,kAI,Array.getElem?_push,Array.size_push];simp))) (by have:=HLen.out;omega) (by have:=HLen.out;unfold maxLen;omega) (by simp;omega) ?_;intro v9 w9 hown9 hb9 hk9;obtain ⟨a9,m9,c9,rfl⟩:=hown9.shape))
    go_roundw
    case rel=>exact ⟨k+1,by omega,by go_num,hJ (by rw [HNx.out];exact hown9),(hB.trans ((HB4.out.alloc HB4.out.size _).mono hB.size)).trans hb9⟩
    case measure=>simp [intOf];omega
  · have HAll:Hid ((l.take k).map pr=l.map pr):=hJ (by rw [List.take_of_length_le (by rw [HL.out];omega)])
    rw [HAll.out] at HO;obtain ⟨va,vc,rfl,hsl⟩:=HO.out.sl;have hlen:(l.map pr).length≤100:=by rw [List.length_map,HL.out];exact hn
    have HC:=hJ (kEE hsl ⟨#[44,32]⟩ (by omega) (fun s hs=>by obtain ⟨x,hx,rfl⟩:=List.mem_map.1 hs;exact Nat.le_trans (HZ.out x hx) (by decide)) (by decide));clear hsl HAll;generalize (l.map pr).length=m at *
    go_wp2_with fail
    refine HC.out.mono ?_;rintro e w4 ⟨rfl,hb4⟩
    go_wp2_with fail
    go_ret;exact ⟨rfl,hB.trans (hb4.mono hB.size)⟩
theorem joinedLin {S:Blk} (l:List Lin) (a:Option Addr) (n c:Nat) (w:World) (h:Sl RLin S w a n c l) (g:FuncId) (hen:Ent1 g) (pr:Lin→Str) (hp:∀ (W:World) (x:Lin) (cs:List Value),Below w.heap.size w W→x ∈ l→RLin.rd S W cs x→Calls Tryz.prog g #[.agg cs.toArray] W fun e w'=>e= .returned (.string (pr x))∧Below W.heap.size W w') (hsz:∀ x ∈ l,(pr x).size≤1000000) (hn:n≤100) :
 Calls Tryz.prog 113 #[.slice a n c,.func (.func g) #[] #[]] w fun e w'=>e= .returned (.string (kAO (l.map pr) ⟨#[44,32]⟩))∧Below w.heap.size w w':=by
 have HS:=hJ h;have HL:=hJ h.len;have HP:=hJ hp;have HZ:=hJ hsz;have hm:=h.small;clear h hp hsz;go_enter func113,ntmps113
 go_wp2_with fail
 go_loopw [5,10] (fun v i wr=>∃ k:Nat,k≤n∧i= .int .i64 k∧Hid (Own RStr 9 (fun _=>False) wr w.heap.size v ((l.take k).map pr))∧Below w.heap.size w wr) (fun _ i _=>n - (intOf i).toNat)
 case atStart=>exact ⟨0,Nat.zero_le _,rfl,Own.nil _ _ _ _ _,Below.refl _ _⟩
 case round =>
  obtain ⟨k,hk,rfl,HO,hB⟩:=hrel;have hz:=hB.size;by_cases hlt:k<n
  · obtain ⟨b,off,rfl,hbW,_⟩:=HS.out.form k hlt
    obtain ⟨_,hr,⟨ta,tc,rfl,_⟩,c0,c1⟩:=(HS.out.below hB).lin k hlt;have hkl:k<l.length:=by rw [HL.out];exact hlt
    have HNx:=hJ (kBU pr hkl);have HM:=hJ (kAJ hkl);have HR:=hJ hr;have HLen:Hid (((l.take k).map pr).length≤100):=hJ (by rw [List.length_map,List.length_take];omega);clear hr hkl;generalize l.getD k default=y at *;have HA:Hid (Below wr.heap.size wr (wr.alloc (.cells [.int .i64 y.const,.slice ta y.terms.length tc].toArray 49))):=hJ ((Below.refl _ _).alloc (Nat.le_refl _) _);have HC:=hJ (HP.out _ _ _ (hB.trans (HA.out.mono hB.size)) HM.out (RLin.below HR.out HA.out));generalize pr y=o at *;obtain ⟨va,vm,vc,rfl⟩:=HO.out.shape
    go_wp2_with (first | (go_at_fn g;refine HC.out.mono ?_;rintro e w4 ⟨rfl,hb4⟩;have HB4:=hJ (HA.out.trans (hb4.mono HA.out.size));have hz4:=HB4.out.size) | (at_builtin;refine kA4 kEP rfl _ _ rfl w.heap.size _ _ rfl ((HO.out.below HB4.out).alloc _) _ o [.string o] rfl rfl (kA6 9 (by (simp only [kAK,kAI,Array.getElem?_push,Array.size_push];simp))) (by have:=HLen.out;omega) (by have:=HLen.out;unfold maxLen;omega) (by simp;omega) ?_;intro v9 w9 hown9 hb9 hk9;obtain ⟨a9,m9,c9,rfl⟩:=hown9.shape))
    go_roundw
    case rel=>exact ⟨k+1,by omega,by go_num,hJ (by rw [HNx.out];exact hown9),(hB.trans ((HB4.out.alloc HB4.out.size _).mono hB.size)).trans hb9⟩
    case measure=>simp [intOf];omega
  · have HAll:Hid ((l.take k).map pr=l.map pr):=hJ (by rw [List.take_of_length_le (by rw [HL.out];omega)])
    rw [HAll.out] at HO;obtain ⟨va,vc,rfl,hsl⟩:=HO.out.sl;have hlen:(l.map pr).length≤100:=by rw [List.length_map,HL.out];exact hn
    have HC:=hJ (kEE hsl ⟨#[44,32]⟩ (by omega) (fun s hs=>by obtain ⟨x,hx,rfl⟩:=List.mem_map.1 hs;exact Nat.le_trans (HZ.out x hx) (by decide)) (by decide));clear hsl HAll;generalize (l.map pr).length=m at *
    go_wp2_with fail
    refine HC.out.mono ?_;rintro e w4 ⟨rfl,hb4⟩
    go_wp2_with fail
    go_ret;exact ⟨rfl,hB.trans (hb4.mono hB.size)⟩
def kHU (s:Sch):Str:=(((⟨#[40]⟩:Str)++kAO (s.params.map kAQ) ⟨#[44,32]⟩)++⟨#[41,32,45,62,32]⟩)++kAQ s.result
def whereS (s:Sch):Str:=(⟨#[32,119,104,101,114,101,32]⟩:Str)++kAO (s.wh.map kAD) ⟨#[44,32]⟩
def kBR (s:Sch):Str:=if 0<s.wh.length then kHU s++whereS s else kHU s
def kCG (s:Sch):Str:=if kAH s then kBR s else ⟨#[]⟩
theorem printH_size {s:Shp} (hz:szH s):(kCC s).size≤100000:=by
 unfold kCC
 split
 · rename_i hv;exact textH_size hz.1 (kF2 hv).2.1
 · exact Nat.zero_le _
theorem kD2 {t:Typ} (hz:szT t):(kAQ t).size≤110000:=by
 have h1:=printH_size hz.2;have h2:=hz.1;unfold kAQ
 split
 · omega
 · rw [ByteArray.size_append];omega
theorem joinT_size {s:Sch} (hz:szS s) (hl:s.params.length≤12):(kAO (s.params.map kAQ) ⟨#[44,32]⟩).size≤2000000:=by
 have q:=kC5 (M:=110000) (s.params.map kAQ) ⟨#[44,32]⟩ (fun x hx=>by
  obtain ⟨t,ht,rfl⟩:=List.mem_map.1 hx;exact kD2 (hz.1 t ht))
 rw [List.length_map] at q;have q3:s.params.length * (110000+(⟨#[44,32]⟩:Str).size)≤12 * 110002:=Nat.mul_le_mul hl (Nat.le_refl _);omega
theorem joinL_size {s:Sch} (hl:s.wh.length≤60):(kAO (s.wh.map kAD) ⟨#[44,32]⟩).size≤200000:=by
 have q:=kC5 (M:=2000) (s.wh.map kAD) ⟨#[44,32]⟩ (fun x hx=>by
  obtain ⟨t,ht,rfl⟩:=List.mem_map.1 hx;exact kDK t)
 rw [List.length_map] at q;have q3:s.wh.length * (2000+(⟨#[44,32]⟩:Str).size)≤60 * 2002:=Nat.mul_le_mul hl (Nat.le_refl _);omega
theorem kI7 {s:Sch} (hz:szS s):(kCG s).size≤3000000:=by
 unfold kCG
 split
 · rename_i hv
   obtain ⟨h1,h2,_⟩:=kA1 hv;have q1:=joinT_size hz h1;have q2:=joinL_size (s:=s) h2;have q3:=kD2 hz.2.1
   have e1:(kHU s).size≤2110006:=by
    unfold kHU;rw [ByteArray.size_append,ByteArray.size_append,ByteArray.size_append]
    show 1+_+5+_≤_
    omega
   have e2:(whereS s).size≤200007:=by
    unfold whereS;rw [ByteArray.size_append]
    show 7+_≤_
    omega
   unfold kBR
   split
   · rw [ByteArray.size_append];omega
   · omega
 · exact Nat.zero_le _
theorem kFV {S:Blk} {x:Sch} {cs:List Value} {w:World} (h:RSch.rd S w cs x) (hz:szS x) (E:Env w) :
 Calls Tryz.prog 56 #[.agg cs.toArray] w fun e w'=>e= .returned (.tuple #[.string (kCG x),.int .i64 (if kAH x then 0 else 1)])∧Below w.heap.size w w':=by
 have HV:Hid (∀ W,Below w.heap.size w W→Calls Tryz.prog 36 #[.agg cs.toArray] W fun e w'=>e= .returned (.bool (kAH x))∧Below W.heap.size W w'):=hJ (fun W hW=>kCF (RSch.below h hW) hz (E.below hW));have HE:=hJ (fun (W:World) (hW:Below w.heap.size w W)=>E.below hW);have HZ:=hJ hz;obtain ⟨p,t,q,rfl,⟨ap,cp,rfl,hp⟩,⟨at_,ct,rfl,ht⟩,⟨aq,cq,rfl,hq⟩⟩:=h;have HPs:=hJ hp;have HTs:=hJ ht;have HQs:=hJ hq;have hmq:=hq.small;clear hp ht hq E hz;obtain ⟨B0,ya,hW0⟩:=box1 w 57 [.slice ap x.params.length cp,.string x.result.elem,.string x.result.shape.row,.slice at_ x.result.shape.dims.length ct,.slice aq x.wh.length cq];have xa0:=box0 ya 0 _ rfl;have xa1:=box0 ya 1 _ rfl;have xa2:=box0 ya 2 _ rfl;have xa3:=box0 ya 3 _ rfl;have xa4:=box0 ya 4 _ rfl;clear ya;have HC:=hJ (HV.out _ B0.out);cases hv:kAH x with
 | false =>
   have HF:Hid (kCG x=⟨#[]⟩):=hJ (by unfold kCG;rw [hv];rfl);rw [hv] at HC;clear HV;go_enter func56,ntmps56
   go_wp2_with fail
   refine (HC.out).mono ?_;rintro e w1 ⟨rfl,hb⟩
   go_wp2_with fail
   go_returns
   exact ⟨by rw [HF.out];rfl,B0.out.trans (hb.mono B0.out.size)⟩
 | true =>
   have HF:Hid (kCG x=kBR x):=hJ (by unfold kCG;rw [hv];rfl);obtain ⟨hl1,hl2,_⟩:=kA1 hv;have hjt:=joinT_size HZ.out hl1;have hjl:=joinL_size (s:=x) hl2;have htr:=kD2 HZ.out.2.1;have HH:Hid (kHU x=(((⟨#[40]⟩:Str)++kAO (x.params.map kAQ) ⟨#[44,32]⟩)++⟨#[41,32,45,62,32]⟩)++kAQ x.result):=hJ rfl;have HW:Hid (whereS x=(⟨#[32,119,104,101,114,101,32]⟩:Str)++kAO (x.wh.map kAD) ⟨#[44,32]⟩):=hJ rfl;have HX0:Hid (x.wh.length=0→kBR x=kHU x):=hJ (fun q=>by unfold kBR;rw [if_neg (by omega)]);have HX1:Hid (0<x.wh.length→kBR x=kHU x++whereS x):=hJ (fun q=>by unfold kBR;rw [if_pos q]);rw [hv] at HC;clear HV hv;go_enter func56,ntmps56
   go_wp2_with fail
   refine (HC.out).mono ?_;rintro e w1 ⟨rfl,hb⟩;have HW1:Hid (Below w.heap.size w w1):=hJ (B0.out.trans (hb.mono B0.out.size));have g0:=kAG xa0 _ hb;have g1:=kAG xa1 _ hb;have g2:=kAG xa2 _ hb;have g3:=kAG xa3 _ hb;have g4:=kAG xa4 _ hb;clear xa0 xa1 xa2 xa3 xa4 hb HC B0 hW0;have HCj:=hJ (fun t9:Later w1=>joinedTyp x.params ap _ cp t9.w (HPs.out.below (HW1.out.trans (t9.b.mono HW1.out.size))) 107 (kBG func107 rfl rfl) kAQ (fun W y cs hW hm hr=>kHZ hr (HZ.out.1 y hm) (HE.out W ((HW1.out.trans (t9.b.mono HW1.out.size)).trans (hW.mono (HW1.out.trans (t9.b.mono HW1.out.size)).size)))) (fun y hy=>Nat.le_trans (kD2 (HZ.out.1 y hy)) (by decide)) (by omega));have HCt:=hJ (fun t9:Later w1=>kHZ (x:=x.result) (cs:=[.string x.result.elem,.string x.result.shape.row,.slice at_ x.result.shape.dims.length ct]) (S:=S) (w:=t9.w) ⟨_,rfl,at_,ct,rfl,HTs.out.below (HW1.out.trans (t9.b.mono HW1.out.size))⟩ HZ.out.2.1 (HE.out _ (HW1.out.trans (t9.b.mono HW1.out.size))));have HCl:=hJ (fun (W:World) (hW:Below w1.heap.size w1 W)=>joinedLin x.wh aq _ cq W (HQs.out.below (HW1.out.trans (hW.mono HW1.out.size))) 114 (kBG func114 rfl rfl) kAD (fun W' y cs hW' hm hr=>kHP hr (HZ.out.2.2 y hm) (HE.out W' ((HW1.out.trans (hW.mono HW1.out.size)).trans (hW'.mono (HW1.out.trans (hW.mono HW1.out.size)).size)))) (fun y hy=>Nat.le_trans (kDK y) (by decide)) (by omega));generalize kAO (x.params.map kAQ) ⟨#[44,32]⟩=jt at *;generalize kAO (x.wh.map kAD) ⟨#[44,32]⟩=jl at *;generalize kAQ x.result=tr at *;have hs1:((⟨#[40]⟩:Str)++jt).size≤2000001:=by rw [ByteArray.size_append];show 1+_≤_;omega
   have hs2:(((⟨#[40]⟩:Str)++jt)++(⟨#[41,32,45,62,32]⟩:Str)).size≤2000006:=by rw [ByteArray.size_append];show _+5≤_;omega
   have hs3:((((⟨#[40]⟩:Str)++jt)++(⟨#[41,32,45,62,32]⟩:Str))++tr).size≤2110006:=by rw [ByteArray.size_append];omega
   have hs4:((⟨#[32,119,104,101,114,101,32]⟩:Str)++jl).size≤200007:=by rw [ByteArray.size_append];show 7+_≤_;omega
   have G0:=Later.cell g0;have G1:=Later.cell g1;have G2:=Later.cell g2;have G3:=Later.cell g3;have G4:=Later.cell g4
   go_wp2_with fail
   refine kAA (by kernel_rfl) (by kernel_rfl) ?_
   repeat (go_big_quiet_step (first | fail | exact Later.call (HCj.out _) | exact Later.call (HCt.out _)))
   refine wpQuiet_nil ?_;rintro _ ⟨t9,rfl⟩;have HB9:=hJ t9.b;have y4:=G4 t9;generalize t9.w=w2 at *;clear G0 G1 G2 G3 G4 g0 g1 g2 g3 g4;generalize hnw:x.wh.length=nw at *;by_cases hw:nw=0
   · have HF2:Hid (kCG x=kHU x):=hJ (by rw [HF.out,HX0.out hw])
     have hw2:¬((0:Int)<(nw:Int)):=by omega
     clear hw hnw
     go_wp2_with fail
     go_returns
     exact ⟨by rw [HF2.out,HH.out];rfl,HW1.out.trans (HB9.out.mono HW1.out.size)⟩
   · have HF2:Hid (kCG x=kHU x++whereS x):=hJ (by rw [HF.out,HX1.out (by omega)])
     have hw2:(0:Int)<(nw:Int):=by omega
     have HC3:=hJ (HCl.out _ HB9.out);clear hw hnw
     go_wp2_with fail
     refine HC3.out.mono ?_;rintro e w3 ⟨rfl,hb3⟩
     go_wp2_with fail
     go_returns
     exact ⟨by rw [HF2.out,HH.out,HW.out];rfl,HW1.out.trans ((HB9.out.trans (hb3.mono HB9.out.size)).mono HW1.out.size)⟩
theorem kDM {i:Ifc} {k:Nat} (hk:k<i.entries.length) (h:entAt i.entries k=false):kAL i=false:=by
 unfold kAL;rw [kFR hk h];rfl
theorem kJH {i:Ifc} (h:∀ k,k<i.entries.length→entAt i.entries k=true):kAL i=(kAZ i.module_ && decide (i.entries.length≤60)):=by
 unfold kAL;rw [kDG h];rfl
theorem kE5 {S:Blk} {x:Ifc} {a:Option Addr} {c:Nat} {w:World} (hs:Sl REnt S w a x.entries.length c x.entries) (hz:∀ e ∈ x.entries,szS e.scheme∧e.name.size≤281474976710656) (hmz:x.module_.size≤281474976710656) (E:Env w) :
 Calls Tryz.prog 16 #[.agg #[.string x.module_,.slice a x.entries.length c]] w fun e w'=>e= .returned (.bool (kAL x))∧Below w.heap.size w w':=by
 have hm:=hs.small;have HZ:=hJ hz;have H:=hJ hs;have EE:=hJ E;clear hz hs E;generalize hl1:x.entries.length=n at *;have HL:=hJ hl1;clear hl1;obtain ⟨B0,ya,hW0⟩:=box1 w 29 [.string x.module_,.slice a n c];have xa0:=box0 ya 0 _ rfl;have xa1:=box0 ya 1 _ rfl;clear ya;go_enter func16,ntmps16
 go_wp2_with fail
 generalize (w.alloc (.cells #[.string x.module_,.slice a n c] 29))=W at *;have H0:=hJ (H.out.below B0.out);have E0:=hJ (EE.out.below B0.out)
 go_loopw [8] (fun i wr=>∃ k:Nat,k≤n∧i= .int .i64 k∧Hid (∀ j,j<k→entAt x.entries j=true)∧Below W.heap.size W wr) (fun i _=>n - (intOf i).toNat)
 case atStart=>exact ⟨0,Nat.zero_le _,rfl,fun j hj=>absurd hj (by omega),Below.refl _ _⟩
 case round =>
  obtain ⟨k,hk,rfl,HT,hB⟩:=hrel;by_cases hlt:k<n
  · obtain ⟨b,off,rfl,hbW,_⟩:=H0.out.form k hlt
    have HR:=hJ (H0.out.below hB);obtain ⟨_,_,_,hr,⟨⟨ap,cp,rfl,_⟩,⟨at_,ct,rfl,_⟩,⟨aq,cq,rfl,_⟩⟩,c0,c1,c2,c3,c4,c5⟩:=HR.out.ent k hlt;obtain ⟨_,e1,hr⟩:=hr;cases e1;have HK:Hid (k<x.entries.length):=hJ (by rw [HL.out];exact hlt);have HTK:Hid (entAt x.entries k=(kAZ (x.entries.getD k default).name && (kAH (x.entries.getD k default).scheme && (k==0 || slt (x.entries.getD (k - 1) default).name (x.entries.getD k default).name)))):=hJ rfl;have hzt:=HZ.out _ (kAJ HK.out);have HRd:=hJ hr;clear hr;generalize x.entries.getD k default=t at *;have hzn:=hzt.2;have HZs:=hJ hzt.1;clear hzt
    go_wp2_with fail
    have hB2:Below W.heap.size W (wr.alloc (.cells #[.string t.name,.slice ap t.scheme.params.length cp,.string t.scheme.result.elem,.string t.scheme.result.shape.row,.slice at_ t.scheme.result.shape.dims.length ct,.slice aq t.scheme.wh.length cq] 60)):=hB.alloc hB.size _;have hb2:Below wr.heap.size wr (wr.alloc (.cells #[.string t.name,.slice ap t.scheme.params.length cp,.string t.scheme.result.elem,.string t.scheme.result.shape.row,.slice at_ t.scheme.result.shape.dims.length ct,.slice aq t.scheme.wh.length cq] 60)):=(Below.refl _ _).alloc (Nat.le_refl _) _;have hbx:=Bx.fresh wr 60 [.string t.name,.slice ap t.scheme.params.length cp,.string t.scheme.result.elem,.string t.scheme.result.shape.row,.slice at_ t.scheme.result.shape.dims.length ct,.slice aq t.scheme.wh.length cq];have v0:=hbx.cell 0 _ rfl;have v1:=hbx.cell 1 _ rfl;have v2:=hbx.cell 2 _ rfl;have v3:=hbx.cell 3 _ rfl;have v4:=hbx.cell 4 _ rfl;have v5:=hbx.cell 5 _ rfl;have hx1:=kAG xa1 _ hB2;have HRd:=hJ (RSch.below HRd.out hb2);clear c0 c1 c2 c3 c4 c5 xa0 xa1 hbx hb2;generalize (wr.alloc (.cells #[.string t.name,.slice ap t.scheme.params.length cp,.string t.scheme.result.elem,.string t.scheme.result.shape.row,.slice at_ t.scheme.result.shape.dims.length ct,.slice aq t.scheme.wh.length cq] 60))=w2 at *;have HB2:=hJ hB2;have E2:=hJ (E0.out.below HB2.out);clear hB hB2;have HC:=hJ (fun t9:Later w2=>kCF (RSch.below HRd.out t9.b) HZs.out (E2.out.at_ t9));have v0:=Later.cell v0;have v1:=Later.cell v1;have v2:=Later.cell v2;have v3:=Later.cell v3;have v4:=Later.cell v4;have v5:=Later.cell v5;have hx1:=Later.cell hx1;cases hnm:kAZ t.name with
    | false =>
      have HF:Hid (kAL x=false):=hJ (kDM HK.out (by rw [HTK.out,hnm];rfl));refine kAA (by kernel_rfl) (by kernel_rfl) ?_
      repeat (go_big_quiet_step (first | fail | exact Later.same (kB7 _ _ hzn) | exact Later.call (HC.out _)))
      refine wpQuiet_nil ?_;rintro _ ⟨t9,rfl⟩
      go_wp2_with fail
      go_ret;exact ⟨by rw [HF.out];rfl,B0.out.trans ((HB2.out.trans (t9.b.mono HB2.out.size)).mono B0.out.size)⟩
    | true =>
      cases hv:kAH t.scheme with
      | false =>
        have HF:Hid (kAL x=false):=hJ (kDM HK.out (by rw [HTK.out,hnm,hv];rfl));refine kAA (by kernel_rfl) (by kernel_rfl) ?_
        repeat (go_big_quiet_step (first | fail | exact Later.same (kB7 _ _ hzn) | exact Later.call (HC.out _)))
        refine wpQuiet_nil ?_;rintro _ ⟨t9,rfl⟩
        go_wp2_with fail
        go_ret;exact ⟨by rw [HF.out];rfl,B0.out.trans ((HB2.out.trans (t9.b.mono HB2.out.size)).mono B0.out.size)⟩
      | true =>
        cases k with
        | zero =>
          have HO:Hid (entAt x.entries 0=true):=hJ (by rw [HTK.out,hnm,hv];rfl);refine kAA (by kernel_rfl) (by kernel_rfl) ?_
          repeat (go_big_quiet_step (first | fail | exact Later.same (kB7 _ _ hzn) | exact Later.call (HC.out _)))
          refine wpQuiet_nil ?_;rintro _ ⟨t9,rfl⟩
          go_wp2_with fail
          go_roundw
          case rel=>exact ⟨1,by omega,by go_num,hJ (fun j hj=>(by omega:j=0) ▸ HO.out),HB2.out.trans (t9.b.mono HB2.out.size)⟩
          case measure=>simp [intOf];omega
        | succ k =>
          obtain ⟨_,_,_,_,_,hp,_⟩:=(H0.out.below HB2.out).ent k (by omega);have hp:=Later.cell hp;have hk0:(0:Int)<((k+1:Nat):Int):=by omega
          have hki:(((k+1:Nat):Int) - 1)=(k:Int):=by omega
          simp only [Nat.add_sub_cancel] at HTK;generalize x.entries.getD k default=p at *;by_cases ho:Op.bytesLess p.name.toList t.name.toList=true
          · have HO:Hid (entAt x.entries (k+1)=true):=hJ (by rw [HTK.out,hnm,hv];simpa [slt] using ho)
            refine kAA (by kernel_rfl) (by kernel_rfl) ?_
            repeat (go_big_quiet_step (first | fail | exact Later.same (kB7 _ _ hzn) | exact Later.call (HC.out _)))
            refine wpQuiet_nil ?_;rintro _ ⟨t9,rfl⟩
            go_wp2_with fail
            go_roundw
            case rel=>exact ⟨k+1+1,by omega,by go_num,hJ (upto HT.out HO.out),HB2.out.trans (t9.b.mono HB2.out.size)⟩
            case measure=>simp [intOf];omega
          · have ho:Op.bytesLess p.name.toList t.name.toList=false:=by simpa using ho
            have HF:Hid (kAL x=false):=hJ (kDM HK.out (by rw [HTK.out,hnm,hv];simpa [slt] using ho));refine kAA (by kernel_rfl) (by kernel_rfl) ?_
            repeat (go_big_quiet_step (first | fail | exact Later.same (kB7 _ _ hzn) | exact Later.call (HC.out _)))
            refine wpQuiet_nil ?_;rintro _ ⟨t9,rfl⟩
            go_wp2_with fail
            go_ret;exact ⟨by rw [HF.out];rfl,B0.out.trans ((HB2.out.trans (t9.b.mono HB2.out.size)).mono B0.out.size)⟩
  · obtain rfl:k=n:=by omega
    have HV:Hid (kAL x=(kAZ x.module_ && decide (k≤60))):=hJ (by rw [kJH (fun j hj=>HT.out j (by rw [HL.out] at hj;exact hj)),HL.out]);have hx0:=kAG xa0 _ hB;have hx1:=kAG xa1 _ hB;cases hs:kAZ x.module_ with
    | true =>
      go_wp2_with fail
      refine (kB7 _ _ hmz).mono ?_;rintro e w5 ⟨rfl,rfl⟩
      go_wp2_with fail
      go_ret;exact ⟨by rw [HV.out,hs,Bool.true_and,← decide_eq_decide.2 (show ((k:Int)≤60 ↔ k≤60) by omega)];rfl,B0.out.trans (hB.mono B0.out.size)⟩
    | false =>
      go_wp2_with fail
      refine (kB7 _ _ hmz).mono ?_;rintro e w5 ⟨rfl,rfl⟩
      go_wp2_with fail
      go_ret;exact ⟨by rw [HV.out,hs];rfl,B0.out.trans (hB.mono B0.out.size)⟩
def kBN (x:Ent):Str:=(x.name++⟨#[58,32]⟩)++kCG x.scheme
def capI (m:Str):Str:=(⟨#[105,110,116,101,114,102,97,99,101,32]⟩:Str)++m
def kC0 (i:Ifc):Str:=kAO ((capI i.module_ :: i.entries.map kBN)++[⟨#[]⟩]) ⟨#[10]⟩
def kB3 (i:Ifc):Str:=if kAL i then kC0 i else ⟨#[]⟩
def tame (x:Ent):Prop:=szS x.scheme∧x.name.size≤100000
theorem lineE_size {x:Ent} (h:tame x):(kBN x).size≤4000000:=by
 have h1:=kI7 h.1;have h2:=h.2;unfold kBN;rw [ByteArray.size_append,ByteArray.size_append]
 show _+2+_≤_
 omega
theorem Own.one {E:TypeId} {S:Blk} {w:World} {g base:Nat} {s:Str} (h:w.heap[g]? =some (.cells #[.string s] E (0,0))) (hb:base≤g):Own RStr E S w base (.slice (some ⟨g,0,none⟩) 1 1) [s] :=
 ⟨⟨[[.string s]],rfl,⟨by simp [RStr],.inr ⟨g,1,#[.string s],rfl,hb,h,Nat.le_refl _,by unfold maxLen;omega,by simp [RStr],by simp [RStr]⟩⟩,fun i x hx=>by
   cases i with
   | zero=>simp at hx;subst hx;exact ⟨_,rfl,rfl⟩
   | succ i=>simp at hx⟩⟩
theorem signature_line {S:Blk} {x:Ent} {cs:List Value} {w:World} (h:REnt.rd S w cs x) (hz:tame x) (E:Env w) :
 Calls Tryz.prog 43 #[.agg cs.toArray] w fun e w'=>e= .returned (.string (kBN x))∧Below w.heap.size w w':=by
 obtain ⟨_,rfl,hr⟩:=h;have hps:=kI7 hz.1;have hnz:=hz.2;obtain ⟨p,t,q,rfl,⟨ap,cp,rfl,hp⟩,⟨at_,ct,rfl,ht⟩,⟨aq,cq,rfl,hq⟩⟩:=hr;have HX:=hJ (fun (W:World) (hW:Below w.heap.size w W)=>kFV (S:=S) (x:=x.scheme) (w:=W) (cs:=[.slice ap x.scheme.params.length cp,.string x.scheme.result.elem,.string x.scheme.result.shape.row,.slice at_ x.scheme.result.shape.dims.length ct,.slice aq x.scheme.wh.length cq]) ⟨_,_,_,rfl,⟨ap,cp,rfl,hp.below hW⟩,⟨at_,ct,rfl,ht.below hW⟩,⟨aq,cq,rfl,hq.below hW⟩⟩ hz.1 (E.below hW));have HT:Hid (kBN x=(x.name++⟨#[58,32]⟩)++kCG x.scheme):=hJ rfl;clear hp ht hq hz E;obtain ⟨B0,ya,hW0⟩:=box1 w 60 [.string x.name,.slice ap x.scheme.params.length cp,.string x.scheme.result.elem,.string x.scheme.result.shape.row,.slice at_ x.scheme.result.shape.dims.length ct,.slice aq x.scheme.wh.length cq];have xa0:=box0 ya 0 _ rfl;have xa1:=box0 ya 1 _ rfl;have xa2:=box0 ya 2 _ rfl;have xa3:=box0 ya 3 _ rfl;have xa4:=box0 ya 4 _ rfl;have xa5:=box0 ya 5 _ rfl;clear ya;have HC:=hJ (HX.out _ B0.out);generalize kCG x.scheme=ps at *;generalize (if kAH x.scheme then (0:Int) else 1)=ev at *;have hs1:(x.name++(⟨#[58,32]⟩:Str)).size≤100002:=by rw [ByteArray.size_append];show _+2≤_;omega
 go_enter func43,ntmps43
 go_wp2_with fail
 refine (HC.out).mono ?_;rintro e w1 ⟨rfl,hb⟩;have g0:=kAG xa0 _ hb
 go_wp2_with fail
 go_ret;exact ⟨by rw [HT.out];rfl,B0.out.trans (hb.mono B0.out.size)⟩
theorem signature_lines {S:Blk} {w:World} {base:Nat} {v:Value} {l:List Str} (h:Own RStr 9 S w base v l) (hbase:base≤w.heap.size) (hn:l.length≤100) (hz:∀ s ∈ l,s.size≤10000000) :
 Calls Tryz.prog 44 #[v] w fun e w'=>e= .returned (.string (kAO (l++[⟨#[]⟩]) ⟨#[10]⟩))∧Below base w w':=by
 have HO:=hJ h;have HZ:=hJ hz;obtain ⟨a,m,c,rfl⟩:=h.shape;clear h hz;go_enter func44,ntmps44
 go_wp2_with (at_builtin;refine kA4 kEP rfl _ _ rfl base _ _ rfl (HO.out.alloc _) _ (⟨#[]⟩:Str) [.string ⟨#[]⟩] rfl rfl (kA6 9 (by (simp only [kAK,kAI,Array.getElem?_push,Array.size_push];simp))) (by omega) (by unfold maxLen;omega) (by simp;omega) ?_;intro v9 w9 hown9 hb9 hk9;obtain ⟨a9,m9,c9,rfl⟩:=hown9.shape;obtain ⟨_,_,q9,hsl⟩:=hown9.sl;rw [Value.slice.injEq] at q9;obtain ⟨rfl,q9,rfl⟩:=q9;rw [← q9] at hsl;have HB9:=hJ (((Below.refl _ _).alloc hbase _).trans hb9);have HC:=hJ (kEE hsl ⟨#[10]⟩ (by rw [q9,List.length_append];show _+1≤_;omega) (fun s hs=>(List.mem_append.1 hs).elim (HZ.out s) (fun q=>by rw [List.mem_singleton] at q;subst q;exact Nat.zero_le _)) (by decide));clear hsl hown9 hb9 hk9 q9)
 refine HC.out.mono ?_;rintro e w3 ⟨rfl,hb3⟩
 go_wp2_with fail
 go_ret;exact ⟨rfl,HB9.out.trans (hb3.mono (Nat.le_trans hbase HB9.out.size))⟩
theorem kIN {S:Blk} {x:Ifc} {a:Option Addr} {n c:Nat} {w:World} (hs:Sl REnt S w a n c x.entries) (hz:∀ e ∈ x.entries,tame e) (hmz:x.module_.size≤100000) (hn:n≤60) (E:Env w) :
 Calls Tryz.prog 19 #[.agg #[.string x.module_,.slice a n c]] w fun e w'=>e= .returned (.string (kC0 x))∧Below w.heap.size w w':=by
 have hm:=hs.small;have HZ:=hJ hz;have HL:=hJ hs.len;have HS0:=hJ hs;have HE:=hJ (fun (W:World) (hW:Below w.heap.size w W)=>E.below hW);have HT:Hid (kC0 x=kAO ((capI x.module_ :: x.entries.map kBN)++[⟨#[]⟩]) ⟨#[10]⟩):=hJ rfl;have HCp:Hid (capI x.module_=(⟨#[105,110,116,101,114,102,97,99,101,32]⟩:Str)++x.module_):=hJ rfl;have hcz:(capI x.module_).size≤100010:=by unfold capI;rw [ByteArray.size_append];show 10+_≤_;omega
 have HCz:=hJ hcz;clear hs E hz hcz;obtain ⟨B0,ya,hW0⟩:=box1 w 29 [.string x.module_,.slice a n c];have xa0:=box0 ya 0 _ rfl;have xa1:=box0 ya 1 _ rfl;clear ya;have HS:=hJ (HS0.out.below B0.out);have HEW:=hJ (fun (W':World) (hW:Below (w.alloc (.cells #[.string x.module_,.slice a n c] 29)).heap.size (w.alloc (.cells #[.string x.module_,.slice a n c] 29)) W')=>HE.out W' (B0.out.trans (hW.mono B0.out.size)));clear HS0 HE;go_enter func19,ntmps19
 go_wp2_with fail
 generalize (w.alloc (.cells #[.string x.module_,.slice a n c] 29))=W at *;rw [← HCp.out];generalize capI x.module_=cm at *;have HO1:Hid (Own RStr 9 (fun _=>False) (W.alloc (.cells #[.string cm] 9)) W.heap.size (.slice (some ⟨w.heap.size+1,0,none⟩) 1 1) (cm :: (x.entries.take 0).map kBN)):=hJ (by rw [← hW0];exact Own.one (by (simp only [kAK,kAI,Array.getElem?_push,Array.size_push];simp)) (Nat.le_refl _))
 go_loopw [3,13] (fun v i wr=>∃ k:Nat,k≤n∧i= .int .i64 k∧Hid (Own RStr 9 (fun _=>False) wr W.heap.size v (cm :: (x.entries.take k).map kBN))∧Below W.heap.size W wr) (fun _ i _=>n - (intOf i).toNat)
 case atStart=>exact ⟨0,Nat.zero_le _,rfl,HO1,(Below.refl _ _).alloc (Nat.le_refl _) _⟩
 case round =>
  obtain ⟨k,hk,rfl,HO,hB⟩:=hrel;have hsz:=hB.size;by_cases hlt:k<n
  · obtain ⟨b,off,rfl,hbW,_⟩:=HS.out.form k hlt
    obtain ⟨_,_,_,hr,⟨⟨ap,cp,rfl,_⟩,⟨at_,ct,rfl,_⟩,⟨aq,cq,rfl,_⟩⟩,c0,c1,c2,c3,c4,c5⟩:=(HS.out.below hB).ent k hlt;have hkl:k<x.entries.length:=by rw [HL.out];exact hlt
    have HNx:=hJ (kBU kBN hkl);have HZk:=hJ (HZ.out _ (kAJ hkl));have HR:=hJ hr;have HLen:Hid ((cm :: (x.entries.take k).map kBN).length≤61):=hJ (by rw [List.length_cons,List.length_map,List.length_take];omega);clear hr hkl;generalize x.entries.getD k default=y at *;have HA:Hid (Below wr.heap.size wr (wr.alloc (.cells #[.string y.name,.slice ap y.scheme.params.length cp,.string y.scheme.result.elem,.string y.scheme.result.shape.row,.slice at_ y.scheme.result.shape.dims.length ct,.slice aq y.scheme.wh.length cq] 60))):=hJ ((Below.refl _ _).alloc (Nat.le_refl _) _);have HC:=hJ (signature_line (REnt.below HR.out HA.out) HZk.out (HEW.out _ (hB.trans (HA.out.mono hB.size))));generalize kBN y=o at *;obtain ⟨va,vm,vc,rfl⟩:=HO.out.shape
    go_wp2_with fail
    refine HC.out.mono ?_;rintro e w4 ⟨rfl,hb4⟩;have HB4:=hJ (HA.out.trans (hb4.mono HA.out.size));have hz4:=HB4.out.size
    go_wp2_with (at_builtin;refine kA4 kEP rfl _ _ rfl W.heap.size _ _ rfl ((HO.out.below HB4.out).alloc _) _ o [.string o] rfl rfl (kA6 9 (by (simp only [kAK,kAI,Array.getElem?_push,Array.size_push];simp))) (by have:=HLen.out;omega) (by have:=HLen.out;unfold maxLen;omega) (by simp;omega) ?_;intro v9 w9 hown9 hb9 hk9;obtain ⟨a9,m9,c9,rfl⟩:=hown9.shape)
    go_roundw
    case rel=>exact ⟨k+1,by omega,by go_num,hJ (by rw [HNx.out,← List.cons_append];exact hown9),(hB.trans ((HB4.out.alloc HB4.out.size _).mono hB.size)).trans hb9⟩
    case measure=>simp [intOf];omega
  · have HAll:Hid (cm :: (x.entries.take k).map kBN=cm :: x.entries.map kBN):=hJ (by rw [List.take_of_length_le (by rw [HL.out];omega)])
    rw [HAll.out] at HO
    have HC:=hJ (signature_lines HO.out hB.size (by rw [List.length_cons,List.length_map,HL.out];omega) (fun s hs=>by
     rcases List.mem_cons.1 hs with q | q
     · subst q;exact Nat.le_trans HCz.out (by decide)
     · obtain ⟨y,hy,rfl⟩:=List.mem_map.1 q
       exact Nat.le_trans (lineE_size (HZ.out y hy)) (by decide)))
    obtain ⟨va,vm,vc,rfl⟩:=HO.out.shape
    go_wp2_with fail
    refine HC.out.mono ?_;rintro e w4 ⟨rfl,hb4⟩
    go_wp2_with fail
    go_ret;exact ⟨by rw [HT.out];rfl,B0.out.trans ((hB.trans hb4).mono B0.out.size)⟩
theorem kDR {S:Blk} {x:Ifc} {a:Option Addr} {c:Nat} {w:World} (hs:Sl REnt S w a x.entries.length c x.entries) (hz:∀ e ∈ x.entries,tame e) (hmz:x.module_.size≤100000) (E:Env w) :
 Calls Tryz.prog 7 #[.agg #[.string x.module_,.slice a x.entries.length c]] w fun e w'=>e= .returned (.tuple #[.string (kB3 x),.int .i64 (if kAL x then 0 else 1)])∧Below w.heap.size w w':=by
 have HV:=hJ (fun (W:World) (hW:Below w.heap.size w W)=>kE5 (hs.below hW) (fun e he=>⟨(hz e he).1,Nat.le_trans (hz e he).2 (by decide)⟩) (by omega) (E.below hW))
 have HX:=hJ (fun (hv:kAL x=true) (W:World) (hW:Below w.heap.size w W)=>kIN (hs.below hW) hz hmz (by
  unfold kAL at hv;rw [Bool.and_eq_true,Bool.and_eq_true,decide_eq_true_eq] at hv;exact hv.2.2) (E.below hW))
 clear hs E hz;generalize x.entries.length=n at *;obtain ⟨B0,ya,hW0⟩:=box1 w 29 [.string x.module_,.slice a n c];have xa0:=box0 ya 0 _ rfl;have xa1:=box0 ya 1 _ rfl;clear ya;have HC:=hJ (HV.out _ B0.out);cases hv:kAL x with
 | false =>
   have HF:Hid (kB3 x=⟨#[]⟩):=hJ (by unfold kB3;rw [hv];rfl);rw [hv] at HC;clear HV HX;go_enter func7,ntmps7
   go_wp2_with fail
   refine (HC.out).mono ?_;rintro e w1 ⟨rfl,hb⟩
   go_wp2_with fail
   go_returns
   exact ⟨by rw [HF.out];rfl,B0.out.trans (hb.mono B0.out.size)⟩
 | true =>
   have HF:Hid (kB3 x=kC0 x):=hJ (by unfold kB3;rw [hv];rfl);have HX2:=hJ (HX.out hv);rw [hv] at HC;clear HV HX;go_enter func7,ntmps7
   go_wp2_with fail
   refine (HC.out).mono ?_;rintro e w1 ⟨rfl,hb⟩;have HW1:=hJ (B0.out.trans (hb.mono B0.out.size));have g0:=kAG xa0 _ hb;have g1:=kAG xa1 _ hb;have hlw:w.heap.size<w1.heap.size:=kCR g1;have HC2:=hJ (HX2.out _ HW1.out)
   go_wp2_with fail
   refine (HC2.out).mono ?_;rintro e w2 ⟨rfl,hb2⟩
   go_wp2_with fail
   go_returns
   exact ⟨by rw [HF.out];rfl,HW1.out.trans (hb2.mono HW1.out.size)⟩
def kS:Str:=⟨#[107]⟩
def exS:Sch:=⟨[⟨⟨#[65]⟩,⟨⟨#[]⟩,[varL kS]⟩⟩],⟨⟨#[65]⟩,⟨⟨#[]⟩,[]⟩⟩,[]⟩
def exE:Ent:=⟨⟨#[102]⟩,exS⟩
def n1S:Str:=⟨#[110,49]⟩
def a1S:Str:=⟨#[65,49]⟩
def exC:Sch:=⟨[⟨a1S,⟨⟨#[]⟩,[varL n1S]⟩⟩],⟨a1S,⟨⟨#[]⟩,[]⟩⟩,[]⟩
def exI:Ifc:=⟨⟨#[109]⟩,[⟨⟨#[102]⟩,exC⟩]⟩
theorem ex_name1:kAZ ⟨#[109]⟩=true:=by kernel_rfl
theorem ex_name2:kAZ ⟨#[102]⟩=true:=by kernel_rfl
theorem ex_valid:kAH exS=true:=by kernel_rfl
theorem ex_ok:canOk exS=true:=by kernel_rfl
theorem ex_can:can exS=exC:=by kernel_rfl
theorem ex_print:kB3 exI=⟨#[105,110,116,101,114,102,97,99,101,32,109,10,102,58,32,40,91,110,49,93,65,49,41,32,45,62,32,65,49,10]⟩:=by kernel_rfl
theorem ex_validI:kAL exI=true:=by kernel_rfl
theorem says_ex {A:Ifc} {ev:Int} (h:Says ⟨#[109]⟩ [exE] A ev):ev=0∧A=exI:=by
 have hok:mkOk ⟨#[109]⟩ [exE]=true:=by
  unfold mkOk goodE;rw [ex_name1]
  show (([exE]:List Ent).all fun x=>canOk x.scheme && kAZ x.name)=true
  show ((canOk exS && kAZ ⟨#[102]⟩) && true)=true
  rw [ex_ok,ex_name2];rfl
 rcases h with ⟨h,_⟩ | ⟨_,h,_⟩ | ⟨_,_,he,m,hp,_,rfl⟩
 · rw [hok] at h;cases h
 · exact absurd (List.pairwise_singleton _ _) h
 · refine ⟨he,?_⟩
   rw [List.perm_singleton.1 hp]
   show (⟨⟨#[109]⟩,[⟨⟨#[102]⟩,can exS⟩]⟩:Ifc)=exI
   rw [ex_can];rfl
theorem law57_awake (w:World) (E:Env w):Calls Tryz.prog 4 #[] w fun e w'=>e= .returned (.bool true)∧Below w.heap.size w w':=by
 obtain ⟨W,hW⟩:∃ W,(((((w.alloc (.cells #[.string ⟨#[107]⟩,.int .i64 1] 46)).alloc (.cells #[.int .i64 0,.slice (some ⟨w.heap.size,0,none⟩) 1 1] 49)).alloc (.cells #[.int .i64 0,.slice (some ⟨w.heap.size,0,none⟩) 1 1] 49)).alloc (.cells #[.string ⟨#[65]⟩,.string ⟨#[]⟩,.slice (some ⟨w.heap.size+2,0,none⟩) 1 1] 54)).alloc (.cells #[.slice (some ⟨w.heap.size+3,0,none⟩) 1 1,.string ⟨#[65]⟩,.string ⟨#[]⟩,.slice none 0 0,.slice none 0 0] 57)).alloc (.cells #[.string ⟨#[102]⟩,.slice (some ⟨w.heap.size+3,0,none⟩) 1 1,.string ⟨#[65]⟩,.string ⟨#[]⟩,.slice none 0 0,.slice none 0 0] 60)=W:=⟨_,rfl⟩
 have b0:W.heap[w.heap.size]? =some (.cells #[.string ⟨#[107]⟩,.int .i64 1] 46 (0,0)):=by rw [← hW];(simp only [kAK,kAI,Array.getElem?_push,Array.size_push];simp);repeat rw [if_neg (by omega)]
 have b2:W.heap[w.heap.size+1+1]? =some (.cells #[.int .i64 0,.slice (some ⟨w.heap.size,0,none⟩) 1 1] 49 (0,0)):=by rw [← hW];(simp only [kAK,kAI,Array.getElem?_push,Array.size_push];simp)
 have b3:W.heap[w.heap.size+1+1+1]? =some (.cells #[.string ⟨#[65]⟩,.string ⟨#[]⟩,.slice (some ⟨w.heap.size+1+1,0,none⟩) 1 1] 54 (0,0)):=by rw [← hW];(simp only [kAK,kAI,Array.getElem?_push,Array.size_push];simp)
 have b5:W.heap[w.heap.size+1+1+1+1+1]? =some (.cells #[.string ⟨#[102]⟩,.slice (some ⟨w.heap.size+1+1+1,0,none⟩) 1 1,.string ⟨#[65]⟩,.string ⟨#[]⟩,.slice none 0 0,.slice none 0 0] 60 (0,0)):=by rw [← hW];(simp only [kAK,kAI,Array.getElem?_push,Array.size_push];simp)
 have hsz:W.heap.size=w.heap.size+6:=by rw [← hW];simp
 have hBW:Below w.heap.size w W:=by rw [← hW];exact ((((((Below.refl _ _).alloc (by simp <;> omega) _).alloc (by simp <;> omega) _).alloc (by simp <;> omega) _).alloc (by simp <;> omega) _).alloc (by simp <;> omega) _).alloc (by simp <;> omega) _
 have s0:Sl kCB All W (some ⟨w.heap.size,0,none⟩) 1 1 [⟨kS,1⟩]:=Sl.single (cs:=[.string kS,.int .i64 1]) b0 rfl trivial;have s2:Sl RLin All W (some ⟨w.heap.size+1+1,0,none⟩) 1 1 [varL kS]:=Sl.single (cs:=[.int .i64 0,.slice (some ⟨w.heap.size,0,none⟩) 1 1]) b2 ⟨_,rfl,_,_,rfl,s0⟩ trivial;have s3:Sl RTyp All W (some ⟨w.heap.size+1+1+1,0,none⟩) 1 1 [⟨⟨#[65]⟩,⟨⟨#[]⟩,[varL kS]⟩⟩]:=Sl.single (cs:=[.string ⟨#[65]⟩,.string ⟨#[]⟩,.slice (some ⟨w.heap.size+1+1,0,none⟩) 1 1]) b3 ⟨_,rfl,_,_,rfl,s2⟩ trivial;have s5:Sl REnt All W (some ⟨w.heap.size+1+1+1+1+1,0,none⟩) 1 1 [exE]:=Sl.single (cs:=[.string ⟨#[102]⟩,.slice (some ⟨w.heap.size+1+1+1,0,none⟩) 1 1,.string ⟨#[65]⟩,.string ⟨#[]⟩,.slice none 0 0,.slice none 0 0]) b5 ⟨_,rfl,_,_,_,rfl,⟨_,_,rfl,s3⟩,⟨none,0,rfl,Sl.empty _ _ _⟩,⟨none,0,rfl,Sl.empty _ _ _⟩⟩ trivial;have hfit:Fit W (some ⟨w.heap.size+1+1+1+1+1,0,none⟩):=fun ad e=>by cases e;exact ⟨_,_,rfl,by omega⟩
 have hfine:∀ x ∈ [exE],fine x:=fun x hx=>by
  rw [List.mem_singleton] at hx;subst hx;exact ⟨sch_sz ex_valid,by decide,fun _=>by decide⟩
 have HM:=hJ (signature_Make (mod:=⟨#[109]⟩) s5 hfit (by decide) hfine (by decide) (E.below hBW));have HB:=hJ hBW;have HE:=hJ (fun (W':World) (hW':Below w.heap.size w W')=>E.below hW');clear b0 b2 b3 b5 hsz hBW s0 s2 s3 s5 hfit hfine E
 have htame:∀ x ∈ exI.entries,tame x:=fun x hx=>by
  have hx:x ∈ [(⟨⟨#[102]⟩,exC⟩:Ent)]:=hx;rw [List.mem_singleton] at hx;subst hx;exact ⟨sch_sz (by kernel_rfl),by decide⟩
 have HT:=hJ htame;clear htame;go_enter func4,ntmps4
 go_wp2_with fail
 refine HM.out.mono ?_;rintro e w1 ⟨⟨A,ev,a',c',rfl,hsay,hs1⟩,hb1⟩;obtain ⟨rfl,rfl⟩:=says_ex hsay;have HW1:=hJ (HB.out.trans (hb1.mono HB.out.size));obtain ⟨W2,hW2⟩:∃ W2,w1.alloc (.cells #[.string exI.module_,.slice a' exI.entries.length c'] 29)=W2:=⟨_,rfl⟩
 have HB2:Hid (Below w1.heap.size w1 W2):=hJ (by rw [← hW2];exact (Below.refl _ _).alloc (Nat.le_refl _) _);have HX2:Hid (Bx W2 w1.heap.size 29 [.string exI.module_,.slice a' exI.entries.length c']):=hJ (by rw [← hW2];exact Bx.fresh _ _ _);have HS2:=hJ (hs1.below HB2.out);have HWW2:=hJ (HW1.out.trans (HB2.out.mono HW1.out.size));have HP:=hJ (kDR HS2.out HT.out (by decide) (HE.out _ HWW2.out));rw [ex_validI,if_pos rfl,ex_print] at HP;have x0:=HX2.out.cell 0 _ rfl;have x1:=HX2.out.cell 1 _ rfl;clear hW hsay hs1 hb1 HM
 go_wp2_with fail
 refine HP.out.mono ?_;rintro e w3 ⟨rfl,hb3⟩;clear hW2 x0 x1;have HW3:=hJ (HWW2.out.trans (hb3.mono HWW2.out.size));have HX3:=hJ (HX2.out.below hb3 HX2.out.lt);have HS3:=hJ (HS2.out.below hb3);have y0:=HX3.out.cell 0 _ rfl;have y1:=HX3.out.cell 1 _ rfl;have HV:=hJ (kE5 HS3.out (fun e he=>⟨(HT.out e he).1,Nat.le_trans (HT.out e he).2 (by decide)⟩) (by decide) (HE.out _ HW3.out));rw [ex_validI] at HV
 go_wp2_with fail
 refine HV.out.mono ?_;rintro e w4 ⟨rfl,hb4⟩;clear y0 y1;have HW4:=hJ (HW3.out.trans (hb4.mono HW3.out.size));have HX4:=hJ (HX3.out.below hb4 HX3.out.lt);have HS4:=hJ (HS3.out.below hb4);have z0:=HX4.out.cell 0 _ rfl;have z1:=HX4.out.cell 1 _ rfl;have HQ:=hJ (signature_Equal HS4.out HS4.out);rw [(eqIfc_iff exI exI).2 rfl] at HQ
 go_wp2_with fail
 refine HQ.out.mono ?_;rintro e w5 ⟨rfl,hb5⟩
 go_wp2_with fail
 go_ret;exact ⟨rfl,HW4.out.trans (hb5.mono HW4.out.size)⟩
theorem eqList_len {α :Type} [Inhabited α] {p: α → α →Bool} {l l2:List α} (h:l.length≠l2.length):kA2 p l l2=false:=by
 unfold kA2;rw [show (l.length==l2.length)=false from beq_eq_false_iff_ne.2 h];rfl
theorem eqList_bad {α :Type} [Inhabited α] {p: α → α →Bool} {l l2:List α} {k:Nat} (hk:k<l.length) (h:p (l.getD k default) (l2.getD k default)=false):kA2 p l l2=false:=by
 unfold kA2;rw [kFR hk h,Bool.and_false]
theorem kJC {α :Type} [Inhabited α] {p: α → α →Bool} {l l2:List α} (hl:l.length=l2.length) (h:∀ j,j<l.length→p (l.getD j default) (l2.getD j default)=true):kA2 p l l2=true:=by
 unfold kA2;rw [show (l.length==l2.length)=true from beq_iff_eq.2 hl,kDG h];rfl
theorem allT_len (x:Sch):(allT x).length=x.params.length+1:=by unfold allT;rw [List.length_append];rfl
theorem eqSch_all (x y:Sch):kHV x y=(kA2 kEO (allT x) (allT y) && kA2 kCX x.wh y.wh):=by
 rw [Bool.eq_iff_iff,eqSch_iff,Bool.and_eq_true,kEB _ eqTyp_iff,kEB _ kGJ];unfold allT
 constructor
 · rintro rfl;exact ⟨rfl,rfl⟩
 · rintro ⟨h1,h2⟩
   have:=List.append_inj' h1 rfl;cases x;cases y
   simp_all
theorem ref12_EqualScheme {S T:Blk} {x y:Sch} {cs ds:List Value} {w:World} (h:RSch.rd S w cs x) (h2:RSch.rd T w ds y) (hnx:x.params.length≤1000000) (hny:y.params.length≤1000000) :
 Calls Tryz.prog 28 #[.agg cs.toArray,.agg ds.toArray] w fun e w'=>e= .returned (.bool (kHV x y))∧Below w.heap.size w w':=by
 have HCX:Hid (∀ W,Below w.heap.size w W→Calls Tryz.prog 40 #[.agg cs.toArray] W fun e w'=>(∃ v,e= .returned v∧Own RTyp 54 S w' W.heap.size v (allT x))∧Below W.heap.size W w') :=
  hJ (fun W hW=>kJU (RSch.below h hW) hnx)
 have HCY:Hid (∀ W,Below w.heap.size w W→Calls Tryz.prog 40 #[.agg ds.toArray] W fun e w'=>(∃ v,e= .returned v∧Own RTyp 54 T w' W.heap.size v (allT y))∧Below W.heap.size W w') :=
  hJ (fun W hW=>kJU (RSch.below h2 hW) hny)
 obtain ⟨_,_,_,rfl,⟨ap,cp,rfl,hp⟩,⟨at_,ct,rfl,ht⟩,⟨aq,cq,rfl,hq⟩⟩:=h;obtain ⟨_,_,_,rfl,⟨ap2,cp2,rfl,hp2⟩,⟨at2,ct2,rfl,ht2⟩,⟨aq2,cq2,rfl,hq2⟩⟩:=h2;have HQ0:=hJ hq;have HQ20:=hJ hq2;have hm:=hq.small;have hm2:=hq2.small;clear hp ht hq hp2 ht2 hq2;have HN:=hJ (eqSch_all x y);have HAX:=hJ (allT_len x);have HAY:=hJ (allT_len y);generalize hn1:x.params.length=n at *;generalize hn2:y.params.length=n2 at *;generalize hl1:x.wh.length=m at *;generalize hl2:y.wh.length=m2 at *;have HL1:=hJ hl1;have HL2:=hJ hl2;clear hn1 hn2 hl1 hl2;by_cases hd:n=n2
 case neg =>
  obtain ⟨B0,ya,yb,hW0⟩:=box2 w 57 [.slice ap n cp,.string x.result.elem,.string x.result.shape.row,.slice at_ x.result.shape.dims.length ct,.slice aq m cq] 57 [.slice ap2 n2 cp2,.string y.result.elem,.string y.result.shape.row,.slice at2 y.result.shape.dims.length ct2,.slice aq2 m2 cq2];have xa0:=box0 ya 0 _ rfl;have xa1:=box0 ya 1 _ rfl;have xa2:=box0 ya 2 _ rfl;have xa3:=box0 ya 3 _ rfl;have xa4:=box0 ya 4 _ rfl;have xb0:=box0 yb 0 _ rfl;have xb1:=box0 yb 1 _ rfl;have xb2:=box0 yb 2 _ rfl;have xb3:=box0 yb 3 _ rfl;have xb4:=box0 yb 4 _ rfl;clear ya yb;have q1:((n:Int) != (n2:Int))=true:=bne_iff_ne.2 (by omega);have HF:Hid (kHV x y=false):=hJ (by rw [HN.out,eqList_len (by rw [HAX.out,HAY.out];omega)];rfl);go_enter func28,ntmps28
  go_wp2_with fail
  go_ret;exact ⟨by rw [HF.out];rfl,B0.out⟩
 subst hd;by_cases hd2:m=m2
 case neg =>
  obtain ⟨B0,ya,yb,hW0⟩:=box2 w 57 [.slice ap n cp,.string x.result.elem,.string x.result.shape.row,.slice at_ x.result.shape.dims.length ct,.slice aq m cq] 57 [.slice ap2 n cp2,.string y.result.elem,.string y.result.shape.row,.slice at2 y.result.shape.dims.length ct2,.slice aq2 m2 cq2];have xa0:=box0 ya 0 _ rfl;have xa1:=box0 ya 1 _ rfl;have xa2:=box0 ya 2 _ rfl;have xa3:=box0 ya 3 _ rfl;have xa4:=box0 ya 4 _ rfl;have xb0:=box0 yb 0 _ rfl;have xb1:=box0 yb 1 _ rfl;have xb2:=box0 yb 2 _ rfl;have xb3:=box0 yb 3 _ rfl;have xb4:=box0 yb 4 _ rfl;clear ya yb;have q1:((n:Int) != (n:Int))=false:=by simp
  have q2:((m:Int) != (m2:Int))=true:=bne_iff_ne.2 (by omega);have HF:Hid (kHV x y=false):=hJ (by rw [HN.out,eqList_len (p:=kCX) (by rw [HL1.out,HL2.out];exact hd2),Bool.and_false]);go_enter func28,ntmps28
  go_wp2_with fail
  go_ret;exact ⟨by rw [HF.out];rfl,B0.out⟩
 subst hd2;obtain ⟨B0,ya,yb,hW0⟩:=box2 w 57 [.slice ap n cp,.string x.result.elem,.string x.result.shape.row,.slice at_ x.result.shape.dims.length ct,.slice aq m cq] 57 [.slice ap2 n cp2,.string y.result.elem,.string y.result.shape.row,.slice at2 y.result.shape.dims.length ct2,.slice aq2 m cq2];have xa0:=box0 ya 0 _ rfl;have xa1:=box0 ya 1 _ rfl;have xa2:=box0 ya 2 _ rfl;have xa3:=box0 ya 3 _ rfl;have xa4:=box0 ya 4 _ rfl;have xb0:=box0 yb 0 _ rfl;have xb1:=box0 yb 1 _ rfl;have xb2:=box0 yb 2 _ rfl;have xb3:=box0 yb 3 _ rfl;have xb4:=box0 yb 4 _ rfl;clear ya yb;have q1:((n:Int) != (n:Int))=false:=by simp
 have q2:((m:Int) != (m:Int))=false:=by simp
 go_enter func28,ntmps28
 go_wp2_with fail
 generalize ((w.alloc (.cells #[.slice ap n cp,.string x.result.elem,.string x.result.shape.row,.slice at_ x.result.shape.dims.length ct,.slice aq m cq] 57)).alloc (.cells #[.slice ap2 n cp2,.string y.result.elem,.string y.result.shape.row,.slice at2 y.result.shape.dims.length ct2,.slice aq2 m cq2] 57))=W at *
 have HCX:Hid (∀ W',Below W.heap.size W W'→Calls Tryz.prog 40 #[.agg #[.slice ap n cp,.string x.result.elem,.string x.result.shape.row,.slice at_ x.result.shape.dims.length ct,.slice aq m cq]] W' fun e w'=>(∃ a c,e= .returned (.slice a (allT x).length c)∧Sl RTyp All w' a (allT x).length c (allT x))∧Below W.heap.size W w'∧Below W'.heap.size W' w') :=
  hJ (fun W' hW'=>(HCX.out W' (B0.out.trans (hW'.mono B0.out.size))).mono fun e w' ⟨⟨v,he,ho⟩,hb⟩=>by
   obtain ⟨a,c,rfl,hs⟩:=ho.sl;exact ⟨⟨a,c,he,hs.all⟩,hW'.trans (hb.mono hW'.size),hb⟩)
 have HCY:Hid (∀ W',Below W.heap.size W W'→Calls Tryz.prog 40 #[.agg #[.slice ap2 n cp2,.string y.result.elem,.string y.result.shape.row,.slice at2 y.result.shape.dims.length ct2,.slice aq2 m cq2]] W' fun e w'=>(∃ a c,e= .returned (.slice a (allT y).length c)∧Sl RTyp All w' a (allT y).length c (allT y))∧Below W.heap.size W w'∧Below W'.heap.size W' w') :=
  hJ (fun W' hW'=>(HCY.out W' (B0.out.trans (hW'.mono B0.out.size))).mono fun e w' ⟨⟨v,he,ho⟩,hb⟩=>by
   obtain ⟨a,c,rfl,hs⟩:=ho.sl;exact ⟨⟨a,c,he,hs.all⟩,hW'.trans (hb.mono hW'.size),hb⟩)
 obtain ⟨N,hN⟩:∃ N,N=n+1:=⟨_,rfl⟩
 rw [HAX.out,← hN] at HCX;rw [HAY.out,← hN] at HCY;have hN2:N≤9223372036854775807:=by omega
 have HQ:=hJ (HQ0.out.below B0.out);have HQ2:=hJ (HQ20.out.below B0.out)
 go_region_with (first
  | (go_at_call_of 40 (Value.slice ap n cp)
     refine (HCX.out _ ?hw).mono ?_
     case hw=>(repeat (first | assumption | exact Below.refl _ _ | exact Hid.out (by assumption) | refine kFD ?_ _ | refine kG1 ?_))
     rintro e w1 ⟨⟨ax,cx,rfl,hslx⟩,hbx,hbx2⟩;have r0:=kAG xb0 _ hbx;have r1:=kAG xb1 _ hbx;have r2:=kAG xb2 _ hbx;have r3:=kAG xb3 _ hbx;have r4:=kAG xb4 _ hbx)
  | (go_at_call_of 40 (Value.slice ap2 n cp2)
     refine (HCY.out _ ?hw).mono ?_
     case hw=>(repeat (first | assumption | exact Below.refl _ _ | exact Hid.out (by assumption) | refine kFD ?_ _ | refine kG1 ?_))
     rintro e w2 ⟨⟨ay,cy,rfl,hsly⟩,hby,hby2⟩;have r0:=kAG xa0 _ hby;have r1:=kAG xa1 _ hby;have r2:=kAG xa2 _ hby;have r3:=kAG xa3 _ hby;have r4:=kAG xa4 _ hby))
 all_goals
  have HSX:=hJ (hslx.below hby2);have HSY:=hJ hsly;have HLX:Hid ((allT x).length=N):=hJ (by rw [HAX.out,hN]);have HLY:Hid ((allT y).length=N):=hJ (by rw [HAY.out,hN]);have g4:=kAG xa4 _ hby;have k4:=kAG xb4 _ hby;have HW2:=hJ hby;have HQ2:=hJ (HQ2.out.below hby);have HQ:=hJ (HQ.out.below hby);clear hslx hsly hbx hbx2 hby hby2 r0 r1 r2 r3 r4 xa0 xa1 xa2 xa3 xa4 xb0 xb1 xb2 xb3 xb4 HCX HCY
  go_wp2_with fail
  go_loopw [7] (fun i wr=>∃ k:Nat,k≤N∧i= .int .i64 k∧Hid (∀ j,j<k→kEO ((allT x).getD j default) ((allT y).getD j default)=true)∧Below w2.heap.size w2 wr) (fun i _=>N - (intOf i).toNat)
  case atStart=>exact ⟨0,Nat.zero_le _,rfl,fun j hj=>absurd hj (by omega),Below.refl _ _⟩
  case round =>
   obtain ⟨k,hk,rfl,HT,hB⟩:=hrel;by_cases hlt:k<N
   · obtain ⟨b,off,rfl,hbW,_⟩:=HSX.out.form k hlt
     obtain ⟨b2,off2,rfl,hbW2,_⟩:=HSY.out.form k hlt;obtain ⟨t,hr,hd,c0,c1,c2⟩:=(HSX.out.below hB).typ k hlt;obtain ⟨t2,hr2,hd2,d0,d1,d2⟩:=(HSY.out.below hB).typ k hlt;have HC:=hJ (fun t9:Later wr=>ref12_Equal (RTyp.below hr t9.b) (RTyp.below hr2 t9.b));have c0:=Later.cell c0;have c1:=Later.cell c1;have c2:=Later.cell c2;have d0:=Later.cell d0;have d1:=Later.cell d1;have d2:=Later.cell d2;have HBad:=hJ (fun q=>eqList_bad (p:=kEO) (l:=allT x) (l2:=allT y) (k:=k) (by rw [HLX.out];exact hlt) q);have HGo:=hJ (fun q=>upto HT.out (p:=fun j=>kEO ((allT x).getD j default) ((allT y).getD j default)=true) q);clear hr hr2 hd hd2;generalize (allT x).getD k default=u at *;generalize (allT y).getD k default=u2 at *;generalize kEO u u2=q at *;cases q with
     | true =>
       replace HGo:=hJ (HGo.out rfl)
       go_wp2_with fail
       refine kAA (by kernel_rfl) (by kernel_rfl) ?_
       repeat (go_big_quiet_step (first | fail | exact Later.call (HC.out _)))
       refine wpQuiet_nil ?_;rintro _ ⟨t9,rfl⟩
       go_wp2_with fail
       go_roundw
       case rel=>exact ⟨k+1,by omega,by go_num,HGo,hB.trans (t9.b.mono hB.size)⟩
       case measure=>simp [intOf];omega
     | false =>
       have HF:Hid (kHV x y=false):=hJ (by rw [HN.out,HBad.out rfl];rfl)
       go_wp2_with fail
       refine kAA (by kernel_rfl) (by kernel_rfl) ?_
       repeat (go_big_quiet_step (first | fail | exact Later.call (HC.out _)))
       refine wpQuiet_nil ?_;rintro _ ⟨t9,rfl⟩
       go_wp2_with fail
       go_ret;exact ⟨by rw [HF.out];rfl,B0.out.trans ((HW2.out.trans ((hB.trans (t9.b.mono hB.size)).mono HW2.out.size)).mono B0.out.size)⟩
   · have HA:Hid (kA2 kEO (allT x) (allT y)=true):=hJ (kJC (by rw [HLX.out,HLY.out]) (fun j hj=>HT.out j (by rw [HLX.out] at hj;omega)))
     have HN2:Hid (kHV x y=kA2 kCX x.wh y.wh):=hJ (by rw [HN.out,HA.out];rfl);have hW3:=HW2.out.trans (hB.mono HW2.out.size);have g5:=kAG g4 _ hB;have k5:=kAG k4 _ hB;have HW3:=hJ hB;clear hW3 hB
     go_wp2_with fail
     go_loopw [8] (fun i wr=>∃ k:Nat,k≤m∧i= .int .i64 k∧Hid (∀ j,j<k→kCX (x.wh.getD j default) (y.wh.getD j default)=true)∧Below w2.heap.size w2 wr) (fun i _=>m - (intOf i).toNat)
     case atStart=>exact ⟨0,Nat.zero_le _,rfl,fun j hj=>absurd hj (by omega),HW3.out⟩
     case round =>
      obtain ⟨k,hk,rfl,HT,hB⟩:=hrel;have g6:=kAG g4 _ hB;have k6:=kAG k4 _ hB;by_cases hlt:k<m
      · obtain ⟨b,off,rfl,hbW,_⟩:=HQ.out.form k hlt
        obtain ⟨b2,off2,rfl,hbW2,_⟩:=HQ2.out.form k hlt;obtain ⟨t,hr,hd,c0,c1⟩:=(HQ.out.below hB).lin k hlt;obtain ⟨t2,hr2,hd2,d0,d1⟩:=(HQ2.out.below hB).lin k hlt;have HC:=hJ (fun t9:Later wr=>ref04_Equal (RLin.below hr t9.b) (RLin.below hr2 t9.b));have g7:=Later.cell g6;have k7:=Later.cell k6;have c0:=Later.cell c0;have c1:=Later.cell c1;have d0:=Later.cell d0;have d1:=Later.cell d1;have HBad:=hJ (fun q=>eqList_bad (p:=kCX) (l:=x.wh) (l2:=y.wh) (k:=k) (by rw [HL1.out];exact hlt) q);have HGo:=hJ (fun q=>upto HT.out (p:=fun j=>kCX (x.wh.getD j default) (y.wh.getD j default)=true) q);clear hr hr2 hd hd2;generalize x.wh.getD k default=u at *;generalize y.wh.getD k default=u2 at *;generalize kCX u u2=q at *;cases q with
        | true =>
          replace HGo:=hJ (HGo.out rfl)
          go_wp2_with fail
          refine kAA (by kernel_rfl) (by kernel_rfl) ?_
          repeat (go_big_quiet_step (first | fail | exact Later.call (HC.out _)))
          refine wpQuiet_nil ?_;rintro _ ⟨t9,rfl⟩
          go_wp2_with fail
          go_roundw
          case rel=>exact ⟨k+1,by omega,by go_num,HGo,hB.trans (t9.b.mono hB.size)⟩
          case measure=>simp [intOf];omega
        | false =>
          have HF:Hid (kHV x y=false):=hJ (by rw [HN2.out,HBad.out rfl])
          go_wp2_with fail
          refine kAA (by kernel_rfl) (by kernel_rfl) ?_
          repeat (go_big_quiet_step (first | fail | exact Later.call (HC.out _)))
          refine wpQuiet_nil ?_;rintro _ ⟨t9,rfl⟩
          go_wp2_with fail
          go_ret;exact ⟨by rw [HF.out];rfl,B0.out.trans ((HW2.out.trans ((hB.trans (t9.b.mono hB.size)).mono HW2.out.size)).mono B0.out.size)⟩
      · have HF:Hid (kHV x y=true):=hJ (by rw [HN2.out];exact kJC (by rw [HL1.out,HL2.out]) (fun j hj=>HT.out j (by rw [HL1.out] at hj;omega)))
        go_wp2_with fail
        go_ret;exact ⟨by rw [HF.out];rfl,B0.out.trans ((HW2.out.trans (hB.mono HW2.out.size)).mono B0.out.size)⟩
def slim (x:Ent):Prop:=x.scheme.params.length≤1000000
theorem ref57_Equal {S T:Blk} {x y:Ifc} {a a2:Option Addr} {c c2:Nat} {w:World} (hs:Sl REnt S w a x.entries.length c x.entries) (hs2:Sl REnt T w a2 y.entries.length c2 y.entries) (hpx:∀ e ∈ x.entries,slim e) (hpy:∀ e ∈ y.entries,slim e) :
 Calls Tryz.prog 12 #[.agg #[.string x.module_,.slice a x.entries.length c],.agg #[.string y.module_,.slice a2 y.entries.length c2]] w fun e w'=>e= .returned (.bool (kJD x y))∧Below w.heap.size w w':=by
 have hm:=hs.small;have hm2:=hs2.small;have HN:Hid (kJD x y=((x.module_.toList==y.module_.toList) && kA2 kIJ x.entries y.entries)):=hJ rfl;have HPX:=hJ hpx;have HPY:=hJ hpy;have HS0:=hJ hs;have HS20:=hJ hs2;clear hpx hpy hs hs2;generalize hl1:x.entries.length=n at *;generalize hl2:y.entries.length=n2 at *;have HL1:=hJ hl1;have HL2:=hJ hl2;clear hl1 hl2;obtain ⟨B0,ya,yb,hW0⟩:=box2 w 24 [.string x.module_,.slice a n c] 24 [.string y.module_,.slice a2 n2 c2];have xa0:=box0 ya 0 _ rfl;have xa1:=box0 ya 1 _ rfl;have xb0:=box0 yb 0 _ rfl;have xb1:=box0 yb 1 _ rfl;clear ya yb;have HS:=hJ (HS0.out.below B0.out);have HS2:=hJ (HS20.out.below B0.out);clear HS0 HS20;by_cases hc:(x.module_.toList==y.module_.toList)=true
 case neg =>
  have hc:(x.module_.toList==y.module_.toList)=false:=by simpa using hc
  have hc2:=neqB' hc;have HF:Hid (kJD x y=false):=hJ (by rw [HN.out,hc];rfl);go_enter func12,ntmps12
  go_wp2_with fail
  go_ret;exact ⟨by rw [HF.out];rfl,B0.out⟩
 have HN:Hid (kJD x y=kA2 kIJ x.entries y.entries):=hJ (by rw [HN.out,hc];rfl);have hc2:=neqB hc;by_cases hd:n=n2
 case neg =>
  have q1:((n:Int) != (n2:Int))=true:=bne_iff_ne.2 (by omega);have HF:Hid (kJD x y=false):=hJ (by rw [HN.out,eqList_len (by rw [HL1.out,HL2.out];exact hd)]);go_enter func12,ntmps12
  go_wp2_with fail
  go_ret;exact ⟨by rw [HF.out];rfl,B0.out⟩
 subst hd;have q1:((n:Int) != (n:Int))=false:=by simp
 go_enter func12,ntmps12
 go_wp2_with fail
 generalize ((w.alloc (.cells #[.string x.module_,.slice a n c] 24)).alloc (.cells #[.string y.module_,.slice a2 n c2] 24))=W at *;clear hc hc2 q1
 go_loopw [5] (fun i wr=>∃ k:Nat,k≤n∧i= .int .i64 k∧Hid (∀ j,j<k→kIJ (x.entries.getD j default) (y.entries.getD j default)=true)∧Below W.heap.size W wr) (fun i _=>n - (intOf i).toNat)
 case atStart=>exact ⟨0,Nat.zero_le _,rfl,fun j hj=>absurd hj (by omega),Below.refl _ _⟩
 case round =>
  obtain ⟨k,hk,rfl,HT,hB⟩:=hrel;have g1:=kAG xa1 _ hB;have k1:=kAG xb1 _ hB;by_cases hlt:k<n
  · obtain ⟨b,off,rfl,hbW,_⟩:=HS.out.form k hlt
    obtain ⟨b2,off2,rfl,hbW2,_⟩:=HS2.out.form k hlt;obtain ⟨pp,tt,qq,hr,hd,c0,c1,c2,c3,c4,c5⟩:=(HS.out.below hB).ent k hlt;obtain ⟨pp2,tt2,qq2,hr2,hd2,d0,d1,d2,d3,d4,d5⟩:=(HS2.out.below hB).ent k hlt;obtain ⟨_,e1,hr⟩:=hr;obtain ⟨_,e2,hr2⟩:=hr2;cases e1;cases e2;have hs1:=HPX.out _ (kAJ (l:=x.entries) (k:=k) (by rw [HL1.out];exact hlt));have hs2:=HPY.out _ (kAJ (l:=y.entries) (k:=k) (by rw [HL2.out];exact hlt));have HC:=hJ (fun t9:Later wr=>ref12_EqualScheme (RSch.below hr t9.b) (RSch.below hr2 t9.b) hs1 hs2);have g1:=Later.cell g1;have k1:=Later.cell k1;have c0:=Later.cell c0;have c1:=Later.cell c1;have c2:=Later.cell c2;have c3:=Later.cell c3;have c4:=Later.cell c4;have c5:=Later.cell c5;have d0:=Later.cell d0;have d1:=Later.cell d1;have d2:=Later.cell d2;have d3:=Later.cell d3;have d4:=Later.cell d4;have d5:=Later.cell d5;have HBad:=hJ (fun q=>eqList_bad (p:=kIJ) (l:=x.entries) (l2:=y.entries) (k:=k) (by rw [HL1.out];exact hlt) q);have HGo:=hJ (fun q=>upto HT.out (p:=fun j=>kIJ (x.entries.getD j default) (y.entries.getD j default)=true) q);clear hr hr2 hd hd2 hs1 hs2;generalize x.entries.getD k default=u at *;generalize y.entries.getD k default=u2 at *;have HE:Hid (kIJ u u2=((u.name.toList==u2.name.toList) && kHV u.scheme u2.scheme)):=hJ rfl;by_cases hn:(u.name.toList==u2.name.toList)=true
    · have hn2:=neqB hn
      rw [hn,Bool.true_and] at HE;generalize kHV u.scheme u2.scheme=q at *;cases q with
      | true =>
        replace HGo:=hJ (HGo.out HE.out)
        go_wp2_with fail
        refine kAA (by kernel_rfl) (by kernel_rfl) ?_
        repeat (go_big_quiet_step (first | fail | exact Later.call (HC.out _)))
        refine wpQuiet_nil ?_;rintro _ ⟨t9,rfl⟩
        go_wp2_with fail
        go_roundw
        case rel=>exact ⟨k+1,by omega,by go_num,HGo,hB.trans (t9.b.mono hB.size)⟩
        case measure=>simp [intOf];omega
      | false =>
        have HF:Hid (kJD x y=false):=hJ (by rw [HN.out,HBad.out HE.out])
        go_wp2_with fail
        refine kAA (by kernel_rfl) (by kernel_rfl) ?_
        repeat (go_big_quiet_step (first | fail | exact Later.call (HC.out _)))
        refine wpQuiet_nil ?_;rintro _ ⟨t9,rfl⟩
        go_wp2_with fail
        go_ret;exact ⟨by rw [HF.out];rfl,B0.out.trans ((hB.trans (t9.b.mono hB.size)).mono B0.out.size)⟩
    · have hn:(u.name.toList==u2.name.toList)=false:=by simpa using hn
      have hn2:=neqB' hn;rw [hn,Bool.false_and] at HE;have HF:Hid (kJD x y=false):=hJ (by rw [HN.out,HBad.out HE.out])
      go_wp2_with fail
      refine kAA (by kernel_rfl) (by kernel_rfl) ?_
      repeat (go_big_quiet_step (first | fail | exact Later.call (HC.out _)))
      refine wpQuiet_nil ?_;rintro _ ⟨t9,rfl⟩
      go_wp2_with fail
      go_ret;exact ⟨by rw [HF.out];rfl,B0.out.trans ((hB.trans (t9.b.mono hB.size)).mono B0.out.size)⟩
  · have HF:Hid (kJD x y=true):=hJ (by rw [HN.out];exact kJC (by rw [HL1.out,HL2.out]) (fun j hj=>HT.out j (by rw [HL1.out] at hj;omega)))
    go_wp2_with fail
    go_ret;exact ⟨by rw [HF.out];rfl,B0.out.trans (hB.mono B0.out.size)⟩
theorem kEW {α :Type} {p: α →Bool} {l:List α} (h:(!l.any (fun x=> !p x))=true):∀ x ∈ l,p x=true:=by
 intro x hx;cases hp:p x with
 | true=>rfl
 | false =>
   have:l.any (fun x=> !p x)=true:=List.any_eq_true.2 ⟨x,hx,by rw [hp];rfl⟩;rw [this] at h;cases h
theorem few_lin {x:Lin} (h:kGI x=true):szL x:=by
 unfold kGI at h;rw [Bool.and_eq_true] at h;intro t ht;have:=kEW h.1 t ht;unfold fewC at this;have:=of_decide_eq_true this;omega
theorem few_shp {s:Shp} (h:kFM s=true):szH s∧s.dims.length≤8:=by
 unfold kFM at h;rw [Bool.and_eq_true,Bool.and_eq_true,decide_eq_true_eq,decide_eq_true_eq] at h;exact ⟨⟨by omega,fun x hx=>few_lin (kEW h.1 x hx)⟩,h.2.1⟩
theorem few_typ {t:Typ} (h:kGH t=true):szT t:=by
 unfold kGH at h;rw [Bool.and_eq_true,decide_eq_true_eq] at h;exact ⟨by omega,(few_shp h.2).1⟩
theorem few_sch {s:Sch} (h:kHB s=true) (hw:∀ y ∈ s.wh,szL y):szS s∧s.params.length≤13∧(kAH s=true→s.wh.length≤8):=by
 unfold kHB at h;rw [Bool.and_eq_true,Bool.and_eq_true,Bool.and_eq_true,Bool.or_eq_true,decide_eq_true_eq,decide_eq_true_eq,beq_iff_eq] at h;obtain ⟨h1,h2,h3,h4⟩:=h;have ha:=kEW h1;refine ⟨⟨fun t ht=>few_typ (ha t ?_),few_typ (ha _ ?_),hw⟩,h3,fun hv=>?_⟩
 · unfold allT;exact List.mem_append_left _ ht
 · unfold allT;exact List.mem_append_right _ (List.mem_singleton.2 rfl)
 · have:=(kA1 hv).2.1
   omega
theorem few_ent {e:Ent} (h:fewE e=true) (hw:∀ y ∈ e.scheme.wh,szL y):szS e.scheme∧e.scheme.params.length≤13∧(kAH e.scheme=true→e.scheme.wh.length≤8)∧e.name.size≤40:=by
 unfold fewE at h;rw [Bool.and_eq_true,decide_eq_true_eq] at h;obtain ⟨h1,h2,h3⟩:=few_sch h.1 hw;exact ⟨h1,h2,h3,h.2⟩
theorem few_ifc {i:Ifc} (h:fewIfc i=true):(∀ e ∈ i.entries,fewE e=true)∧i.entries.length≤6∧i.module_.size≤40:=by
 unfold fewIfc at h;rw [Bool.and_eq_true,Bool.and_eq_true,decide_eq_true_eq,decide_eq_true_eq] at h;exact ⟨kEW h.1,h.2.1,h.2.2⟩
theorem Own.fit {α :Type} {R:Rep α} {E:TypeId} {S:Blk} {w:World} {base:Nat} {a:Option Addr} {n c:Nat} {l:List α} (h:Own R E S w base (.slice a n c) l):Fit w a:=fun ad e=>by
 subst e;obtain ⟨css,_,hrow,_⟩:=h.row;obtain ⟨a2,c2,hv,_,_,_,hg⟩:=kDN hrow;rw [Value.slice.injEq] at hv;obtain ⟨rfl,-,rfl⟩:=hv;obtain ⟨g,e,_,hg2⟩:=hg ad rfl;exact ⟨g,0,e,hg2⟩
theorem Own.ready {E:TypeId} {L B:Nat} {w:World} {v:Value} {l:List Ent} (h:Own REnt E (fun k=>k<L) w B v l):∃ a c,v= .slice a l.length c∧Sl REnt (fun k=>(k<L∨B≤k)∧k<w.heap.size) w a l.length c l∧Fit w a:=by
 obtain ⟨a,c,rfl,hs,hat⟩:=h.slAt;exact ⟨a,c,rfl,hs.mono (fun k hk hlt=>⟨hk.elim .inl (fun q=>.inr (hat k q).1),hlt⟩),h.fit⟩
theorem put2 {S:Blk} {W0 w1:World} {g B:Nat} {T:TypeId} {z0 z1:Value} (v0 v1:Value) {a:Option Addr} {n c:Nat} {l:List Ent} (hb:Bx W0 g T [z0,z1]) (hr:Sl REnt S W0 a n c l) (hS:∀ k,S k→k<W0.heap.size→k≠g) (hB:Below B w1 W0) (hg:B≤g) :
 Hid (Bx ((W0.setCell ⟨g,0,none⟩ v0).setCell ⟨g,1,none⟩ v1) g T [v0,v1])∧Hid (Sl REnt All ((W0.setCell ⟨g,0,none⟩ v0).setCell ⟨g,1,none⟩ v1) a n c l)∧Hid (Below B w1 ((W0.setCell ⟨g,0,none⟩ v0).setCell ⟨g,1,none⟩ v1)) :=
 ⟨hJ ((hb.set 0 v0).set 1 v1),hJ ((hr.frame (fun k hk hlt=>(kAB (fun e=>hS k hk hlt e.symm)).trans (kAB (fun e=>hS k hk hlt e.symm)))).all),hJ ((hB.setCell hg _).setCell hg _)⟩
theorem elemEnt2:ElemOf Tryz.prog 22 64 REnt.size 120:=⟨by kernel_rfl,by kernel_rfl⟩
theorem oursIfc {S:Blk} {x:Ifc} {a:Option Addr} {n c:Nat} {w:World} (hs:Sl REnt S w a n c x.entries) (hn:n≤1000000) :
 Calls Tryz.prog 6 #[.agg #[.string x.module_,.slice a n c]] w fun e w'=>(∃ v,e= .returned (.agg #[.string x.module_,v])∧Own REnt 60 (fun k=>S k∧k<w.heap.size) w' (w.heap.size+3) v x.entries)∧Below w.heap.size w w':=by
 obtain ⟨W,hW⟩:∃ W,((w.alloc (.cells #[.string x.module_,.slice a n c] 24)).alloc (.cells #[.string ⟨#[]⟩,.slice none 0 0] 29)).alloc (.cells #[.string x.module_,.slice none 0 0] 29)=W:=⟨_,rfl⟩
 have hB0:Below w.heap.size w W:=by rw [← hW];exact (((Below.refl _ _).alloc (by simp <;> omega) _).alloc (by simp <;> omega) _).alloc (by simp <;> omega) _
 have hsz:W.heap.size=w.heap.size+3:=by rw [← hW];simp
 have hX0:Bx W w.heap.size 24 [.string x.module_,.slice a n c]:=by rw [← hW];exact ((Bx.fresh w 24 [.string x.module_,.slice a n c]).alloc _).alloc _
 have hX1:Bx W (w.heap.size+1) 29 [.string ⟨#[]⟩,.slice none 0 0]:=by
  rw [← hW];have h:=(Bx.fresh (w.alloc (.cells #[.string x.module_,.slice a n c] 24)) 29 [.string ⟨#[]⟩,.slice none 0 0]).alloc (.cells #[.string x.module_,.slice none 0 0] 29)
  simpa using h
 have hX2:Bx W (w.heap.size+1+1) 29 [.string x.module_,.slice none 0 0]:=by
  rw [← hW];have h:=Bx.fresh ((w.alloc (.cells #[.string x.module_,.slice a n c] 24)).alloc (.cells #[.string ⟨#[]⟩,.slice none 0 0] 29)) 29 [.string x.module_,.slice none 0 0]
  simpa using h
 have hlen:=hs.len;have hs0:Sl REnt (fun k=>S k∧k<w.heap.size) W a n c x.entries:=(hs.mono (fun k hk hlt=>⟨hk,hlt⟩)).below hB0;have HS:=hJ hs0;have HL:=hJ hlen;have HB0:=hJ hB0;have HX0:=hJ hX0;have HX1:=hJ hX1;have HX2:=hJ hX2;have HZ:=hJ hsz;have q0:=True.intro;clear hs hs0 hlen hB0 hX0 hX1 hX2 hsz;have HWe:=hJ hW;clear hW;go_enter func6,ntmps6
 go_wp2_with fail
 rw [HWe.out]
 go_loopw [4] (fun i wr=>∃ (k:Nat) (v:Value),k≤n∧i= .int .i64 k∧Hid (Own REnt 60 (fun k=>S k∧k<w.heap.size) wr (w.heap.size+3) v (x.entries.take k))∧Hid (Bx wr (w.heap.size+1+1) 29 [.string x.module_,v])∧Below (w.heap.size+2) W wr) (fun i _=>n - (intOf i).toNat)
 case atStart=>exact ⟨0,_,Nat.zero_le _,rfl,Own.nil _ _ _ _ _,HX2,Below.refl _ _⟩
 case round =>
  obtain ⟨k,v,hk,rfl,HO,HX,hB⟩:=hrel;have hsz:w.heap.size+3≤wr.heap.size:=by have:=hB.size;have:=HZ.out;omega
  have HXr:=hJ (HX0.out.below hB (by omega));have y0:=HXr.out.cell 0 _ rfl;have y1:=HXr.out.cell 1 _ rfl;have z0:=HX.out.cell 0 _ rfl;have z1:=HX.out.cell 1 _ rfl;have hl2:w.heap.size+1+1<wr.heap.size:=by omega
  have HSr:Hid (Sl REnt (fun k=>S k∧k<w.heap.size) wr a n c x.entries):=hJ (HS.out.frame (fun q hq _=>hB.block q (by have:=hq.2;omega)));by_cases hlt:k<n
  · obtain ⟨b,off,rfl,hbW,hSb⟩:=HSr.out.form k hlt
    obtain ⟨_,_,_,hr,⟨⟨ap,cp,rfl,_⟩,⟨at_,ct,rfl,_⟩,⟨aq,cq,rfl,_⟩⟩,c0,c1,c2,c3,c4,c5⟩:=HSr.out.ent k hlt;have hkl:k<x.entries.length:=by rw [HL.out];exact hlt
    have HT:Hid (x.entries.take (k+1)=x.entries.take k++[x.entries.getD k default]):=hJ (kBB hkl);have hlen:(x.entries.take k).length=k:=by rw [List.length_take];omega
    have HLk:=hJ hlen;have HR:=hJ hr;obtain ⟨va,vm,vc,rfl⟩:=HO.out.shape;have hob:∀ q,(Value.slice va vm vc).ownBlock=some q→w.heap.size+3≤q:=fun q e=>HO.out.base_le q e
    clear hkl hr hlen;generalize x.entries.getD k default=y at *
    go_wp2_with fail
    go_region_law (first
     | (refine kJO elemEnt rfl (.tmp 16) (.tmp 22) rfl (w.heap.size+3) _ (x.entries.take k) rfl (HO.out.below (by go_grown)) wr.heap.size y [.string y.name,.slice ap y.scheme.params.length cp,.string y.scheme.result.elem,.string y.scheme.result.shape.row,.slice at_ y.scheme.result.shape.dims.length ct,.slice aq y.scheme.wh.length cq] rfl ?ry ?rc ?rl ?rm ?rb ?_
        case ry=>first | exact REnt.below (REnt.mono HR.out (fun q hq _=>⟨hq,fun e=>by have h1:=hob q e;have h2:=hq.2;omega⟩)) (by go_grown)
        case rc=>first | exact kA6 60 (by (simp only [kAK,kAI,Array.getElem?_push,Array.size_push];simp))
        case rl=>first | (rw [HLk.out];omega)
        case rm=>first | (rw [HLk.out];unfold maxLen;omega)
        case rb=>first | (simp;omega)
        intro v5 w5 hown5 hb5 hk5;have hB5:Below (w.heap.size+3) wr w5:=Below.trans (Below.mono (B:=wr.heap.size) (by go_grown) hsz) hb5;obtain ⟨a5,m5,c5',rfl⟩:=hown5.shape;have HX5:=HX.out.below hB5 (by omega);have u1:=HX5.cell 1 _ rfl;have f1:=HX5.fz 1))
    all_goals go_wp2_with fail
    all_goals go_roundw
    all_goals first
     | exact ⟨k+1,_,by omega,by go_num,hJ (by rw [HT.out];exact hown5.set _ (fun q hq=>by have:=hq.2;show q≠w.heap.size+1+1;omega) (by show w.heap.size+1+1<w.heap.size+3;omega)),hJ (HX5.set 1 _),(hB.trans (hB5.mono (by omega))).setCell (by show w.heap.size+2≤w.heap.size+1+1;omega) _⟩
     | (simp [intOf];omega)
  · have HAll:Hid (x.entries.take k=x.entries):=hJ (List.take_of_length_le (by rw [HL.out];omega))
    rw [HAll.out] at HO;obtain ⟨va,vm,vc,rfl⟩:=HO.out.shape;have HR1:=hJ (HX1.out.below hB (by omega));have t0:=HR1.out.cell 0 _ rfl;have t1:=HR1.out.cell 1 _ rfl;have f0:=HR1.out.fz 0;have f1:=HR1.out.fz 1;have hl1:=HR1.out.lt;have HZz:=hJ ((HR1.out.set 0 (.string x.module_)).set 1 (.slice va vm vc));have s0:=HZz.out.cell 0 _ rfl;have s1:=HZz.out.cell 1 _ rfl
    go_wp2_with fail
    refine bodyPost_ret (v:=.agg #[.string x.module_,.slice va vm vc]) (by simp [results,results6,go_sem,s0,s1,hl1]) rfl ?_;refine ⟨⟨_,rfl,(HO.out.set _ (fun q hq=>?_) ?_).set _ (fun q hq=>?_) ?_⟩,((HB0.out.trans (hB.mono (by omega))).setCell ?_ _).setCell ?_ _⟩
    · have:=hq.2;show q≠w.heap.size+1;omega
    · show w.heap.size+1<w.heap.size+3;omega
    · have:=hq.2;show q≠w.heap.size+1;omega
    · show w.heap.size+1<w.heap.size+3;omega
    · show w.heap.size≤w.heap.size+1;omega
    · show w.heap.size≤w.heap.size+1;omega
theorem theirsIfc {S:Blk} {x:Ifc} {a:Option Addr} {n c:Nat} {w:World} (hs:Sl REnt S w a n c x.entries) (hn:n≤1000000) :
 Calls Tryz.prog 13 #[.agg #[.string x.module_,.slice a n c]] w fun e w'=>(∃ v,e= .returned (.agg #[.string x.module_,v])∧Own REnt 64 (fun k=>S k∧k<w.heap.size) w' (w.heap.size+3) v x.entries)∧Below w.heap.size w w':=by
 obtain ⟨W,hW⟩:∃ W,((w.alloc (.cells #[.string x.module_,.slice a n c] 29)).alloc (.cells #[.string ⟨#[]⟩,.slice none 0 0] 24)).alloc (.cells #[.string x.module_,.slice none 0 0] 24)=W:=⟨_,rfl⟩
 have hB0:Below w.heap.size w W:=by rw [← hW];exact (((Below.refl _ _).alloc (by simp <;> omega) _).alloc (by simp <;> omega) _).alloc (by simp <;> omega) _
 have hsz:W.heap.size=w.heap.size+3:=by rw [← hW];simp
 have hX0:Bx W w.heap.size 29 [.string x.module_,.slice a n c]:=by rw [← hW];exact ((Bx.fresh w 29 [.string x.module_,.slice a n c]).alloc _).alloc _
 have hX1:Bx W (w.heap.size+1) 24 [.string ⟨#[]⟩,.slice none 0 0]:=by
  rw [← hW];have h:=(Bx.fresh (w.alloc (.cells #[.string x.module_,.slice a n c] 29)) 24 [.string ⟨#[]⟩,.slice none 0 0]).alloc (.cells #[.string x.module_,.slice none 0 0] 24)
  simpa using h
 have hX2:Bx W (w.heap.size+1+1) 24 [.string x.module_,.slice none 0 0]:=by
  rw [← hW];have h:=Bx.fresh ((w.alloc (.cells #[.string x.module_,.slice a n c] 29)).alloc (.cells #[.string ⟨#[]⟩,.slice none 0 0] 24)) 24 [.string x.module_,.slice none 0 0]
  simpa using h
 have hlen:=hs.len;have hs0:Sl REnt (fun k=>S k∧k<w.heap.size) W a n c x.entries:=(hs.mono (fun k hk hlt=>⟨hk,hlt⟩)).below hB0;have HS:=hJ hs0;have HL:=hJ hlen;have HB0:=hJ hB0;have HX0:=hJ hX0;have HX1:=hJ hX1;have HX2:=hJ hX2;have HZ:=hJ hsz;have q0:=True.intro;clear hs hs0 hlen hB0 hX0 hX1 hX2 hsz;have HWe:=hJ hW;clear hW;go_enter func13,ntmps13
 go_wp2_with fail
 rw [HWe.out]
 go_loopw [4] (fun i wr=>∃ (k:Nat) (v:Value),k≤n∧i= .int .i64 k∧Hid (Own REnt 64 (fun k=>S k∧k<w.heap.size) wr (w.heap.size+3) v (x.entries.take k))∧Hid (Bx wr (w.heap.size+1+1) 24 [.string x.module_,v])∧Below (w.heap.size+2) W wr) (fun i _=>n - (intOf i).toNat)
 case atStart=>exact ⟨0,_,Nat.zero_le _,rfl,Own.nil _ _ _ _ _,HX2,Below.refl _ _⟩
 case round =>
  obtain ⟨k,v,hk,rfl,HO,HX,hB⟩:=hrel;have hsz:w.heap.size+3≤wr.heap.size:=by have:=hB.size;have:=HZ.out;omega
  have HXr:=hJ (HX0.out.below hB (by omega));have y0:=HXr.out.cell 0 _ rfl;have y1:=HXr.out.cell 1 _ rfl;have z0:=HX.out.cell 0 _ rfl;have z1:=HX.out.cell 1 _ rfl;have hl2:w.heap.size+1+1<wr.heap.size:=by omega
  have HSr:Hid (Sl REnt (fun k=>S k∧k<w.heap.size) wr a n c x.entries):=hJ (HS.out.frame (fun q hq _=>hB.block q (by have:=hq.2;omega)));by_cases hlt:k<n
  · obtain ⟨b,off,rfl,hbW,hSb⟩:=HSr.out.form k hlt
    obtain ⟨_,_,_,hr,⟨⟨ap,cp,rfl,_⟩,⟨at_,ct,rfl,_⟩,⟨aq,cq,rfl,_⟩⟩,c0,c1,c2,c3,c4,c5⟩:=HSr.out.ent k hlt;have hkl:k<x.entries.length:=by rw [HL.out];exact hlt
    have HT:Hid (x.entries.take (k+1)=x.entries.take k++[x.entries.getD k default]):=hJ (kBB hkl);have hlen:(x.entries.take k).length=k:=by rw [List.length_take];omega
    have HLk:=hJ hlen;have HR:=hJ hr;obtain ⟨va,vm,vc,rfl⟩:=HO.out.shape;have hob:∀ q,(Value.slice va vm vc).ownBlock=some q→w.heap.size+3≤q:=fun q e=>HO.out.base_le q e
    clear hkl hr hlen;generalize x.entries.getD k default=y at *
    go_wp2_with fail
    go_region_law (first
     | (refine kJO elemEnt2 rfl (.tmp 16) (.tmp 22) rfl (w.heap.size+3) _ (x.entries.take k) rfl (HO.out.below (by go_grown)) wr.heap.size y [.string y.name,.slice ap y.scheme.params.length cp,.string y.scheme.result.elem,.string y.scheme.result.shape.row,.slice at_ y.scheme.result.shape.dims.length ct,.slice aq y.scheme.wh.length cq] rfl ?ry ?rc ?rl ?rm ?rb ?_
        case ry=>first | exact REnt.below (REnt.mono HR.out (fun q hq _=>⟨hq,fun e=>by have h1:=hob q e;have h2:=hq.2;omega⟩)) (by go_grown)
        case rc=>first | exact kA6 64 (by (simp only [kAK,kAI,Array.getElem?_push,Array.size_push];simp))
        case rl=>first | (rw [HLk.out];omega)
        case rm=>first | (rw [HLk.out];unfold maxLen;omega)
        case rb=>first | (simp;omega)
        intro v5 w5 hown5 hb5 hk5;have hB5:Below (w.heap.size+3) wr w5:=Below.trans (Below.mono (B:=wr.heap.size) (by go_grown) hsz) hb5;obtain ⟨a5,m5,c5',rfl⟩:=hown5.shape;have HX5:=HX.out.below hB5 (by omega);have u1:=HX5.cell 1 _ rfl;have f1:=HX5.fz 1))
    all_goals go_wp2_with fail
    all_goals go_roundw
    all_goals first
     | exact ⟨k+1,_,by omega,by go_num,hJ (by rw [HT.out];exact hown5.set _ (fun q hq=>by have:=hq.2;show q≠w.heap.size+1+1;omega) (by show w.heap.size+1+1<w.heap.size+3;omega)),hJ (HX5.set 1 _),(hB.trans (hB5.mono (by omega))).setCell (by show w.heap.size+2≤w.heap.size+1+1;omega) _⟩
     | (simp [intOf];omega)
  · have HAll:Hid (x.entries.take k=x.entries):=hJ (List.take_of_length_le (by rw [HL.out];omega))
    rw [HAll.out] at HO;obtain ⟨va,vm,vc,rfl⟩:=HO.out.shape;have HR1:=hJ (HX1.out.below hB (by omega));have t0:=HR1.out.cell 0 _ rfl;have t1:=HR1.out.cell 1 _ rfl;have f0:=HR1.out.fz 0;have f1:=HR1.out.fz 1;have hl1:=HR1.out.lt;have HZz:=hJ ((HR1.out.set 0 (.string x.module_)).set 1 (.slice va vm vc));have s0:=HZz.out.cell 0 _ rfl;have s1:=HZz.out.cell 1 _ rfl
    go_wp2_with fail
    refine bodyPost_ret (v:=.agg #[.string x.module_,.slice va vm vc]) (by simp [results,results13,go_sem,s0,s1,hl1]) rfl ?_;refine ⟨⟨_,rfl,(HO.out.set _ (fun q hq=>?_) ?_).set _ (fun q hq=>?_) ?_⟩,((HB0.out.trans (hB.mono (by omega))).setCell ?_ _).setCell ?_ _⟩
    · have:=hq.2;show q≠w.heap.size+1;omega
    · show w.heap.size+1<w.heap.size+3;omega
    · have:=hq.2;show q≠w.heap.size+1;omega
    · show w.heap.size+1<w.heap.size+3;omega
    · show w.heap.size≤w.heap.size+1;omega
    · show w.heap.size≤w.heap.size+1;omega
def kBW (P:Nat→Bool) (n k:Nat):Nat:=k+((List.range' k (n - k)).takeWhile P).length
theorem kBO {P:Nat→Bool} {n k:Nat} (h:n≤k):kBW P n k=k:=by
 unfold kBW;rw [show n - k=0 by omega];rfl
theorem kB0 {P:Nat→Bool} {n k:Nat} (h:P k=false):kBW P n k=k:=by
 unfold kBW;cases n - k with
 | zero=>rfl
 | succ m=>rw [List.range'_succ,List.takeWhile_cons,h];rfl
theorem kDT {P:Nat→Bool} {n k:Nat} (hk:k<n) (h:P k=true):kBW P n k=kBW P n (k+1):=by
 unfold kBW;rw [show n - k=(n - (k+1))+1 by omega,List.range'_succ,List.takeWhile_cons,h];simp only [if_true,List.length_cons];omega
theorem kB1 (P:Nat→Bool) (n k:Nat):k≤kBW P n k:=by unfold kBW;omega
theorem kCE {P:Nat→Bool} {n k:Nat} (h:k≤n):kBW P n k≤n:=by
 unfold kBW;have:=List.Sublist.length_le (List.takeWhile_sublist P (l:=List.range' k (n - k)));rw [List.length_range'] at this;omega
theorem kGS {P:Nat→Bool} {n:Nat}:∀ (d k m:Nat),m=k+d→m≤n→(∀ j,k≤j→j<m→P j=true)→(m<n→P m=false)→kBW P n k=m
 | 0,k,m,hm,hn,_,he=>by
   obtain rfl:m=k:=by omega
   rcases Nat.lt_or_ge m n with h | h
   · exact kB0 (he h)
   · exact kBO h
 | d+1,k,m,hm,hn,hp,he=>by
   rw [kDT (by omega) (hp k (Nat.le_refl _) (by omega))];exact kGS d (k+1) m (by omega) hn (fun j h1 h2=>hp j (by omega) h2) he
theorem kJS {P:Nat→Bool} {n:Nat}:∀ (d k j:Nat),n - k≤d→k≤j→j<kBW P n k→P j=true
 | 0,k,j,hd,h1,h=>by rw [kBO (by omega)] at h;omega
 | d+1,k,j,hd,h1,h=>by
   cases hp:P k with
   | false=>rw [kB0 hp] at h;omega
   | true =>
     rcases Nat.lt_or_ge k n with hk | hk
     · rcases Nat.eq_or_lt_of_le h1 with e | e
       · rw [← e];exact hp
       · rw [kDT hk hp] at h;exact kJS d (k+1) j (by omega) e h
     · rw [kBO hk] at h;omega
theorem kBM (s:Str) {a b:Nat} (hb:b≤s.size):(s.extract a b).size=b - a:=by
 rw [ByteArray.size_extract];omega
theorem kIL (s:Str) {a b i:Nat} (hb:b≤s.size) (hi:a+i<b):bt (s.extract a b) i=bt s (a+i):=by
 have h1:i<(s.extract a b).size:=by rw [kBM s hb];omega
 rw [← kBH _ i h1,← kBH s (a+i) (by omega)]
 congr 2
 exact ByteArray.getElem_extract h1
theorem sub_sub (s:Str) {a n b c:Nat} (h:a+c≤n):(s.extract a n).extract b c=s.extract (a+b) (a+c):=by
 rw [ByteArray.extract_extract]
 congr 1
 omega
def blk (s:Str) (k:Nat):Nat:=kBW (fun i=>bt s i==32) s.size k
def SrcAt (s:Str) (k p:Nat) (w:World):Prop:=Bx w p 154 [.string s,.int .i64 k]
theorem kBK (s:Str) (hs:s.size≤1000000) (k p:Nat) (w:World) (hb:SrcAt s k p w) (hk:k≤s.size) :
 Calls Tryz.prog 118 #[.pointer (some ⟨p,0,none⟩)] w fun e w'=>e= .returned (.tuple #[])∧SrcAt s (blk s k) p w'∧Kb p w w':=by
 have HB:=hJ hb;have HY:Hid (∀ j,j<s.size→(bt s j==32)=true→blk s j=blk s (j+1)):=hJ (fun j hj h=>kDT hj h);have HNo:Hid (∀ j,(bt s j==32)=false→blk s j=j):=hJ (fun j h=>kB0 h);have HSt:Hid (blk s s.size=s.size):=hJ (kBO (Nat.le_refl _));clear hb;go_enter func118,ntmps118
 go_wp2_with fail
 go_loopg [] (s.size - k) (fun g wr=>∃ j:Nat,j≤s.size∧s.size - j≤g∧Hid (blk s j=blk s k)∧Hid (SrcAt s j p wr)∧Hid (Kb p w wr))
 case atStart=>exact ⟨k,hk,Nat.le_refl _,hJ rfl,HB,hJ (Kb.refl _ _)⟩
 case round =>
  obtain ⟨j,hj,hg,HE,HX,HK⟩:=hrel;have z0:=HX.out.cell 0 _ rfl;have z1:=HX.out.cell 1 _ rfl;have Z0:=Later.cell z0;have Z1:=Later.cell z1;by_cases hlt:j<s.size
  · have q1:decide ((j:Int)<(s.size:Int))=true:=decide_eq_true (by omega)
    have g0:=kBH s j hlt;have HYj:=hJ (HY.out j hlt);have HNj:=hJ (HNo.out j);generalize bt s j=c at *;by_cases hc:(c==32)=true
    · have HE2:=hJ ((HYj.out hc).symm.trans HE.out)
      go_wp2_with fail
      refine kAA (by kernel_rfl) (by kernel_rfl) ?_
      repeat (go_big_quiet_step (fail))
      refine wpQuiet_nil ?_;rintro _ ⟨t9,rfl⟩;have HX2:=hJ (HX.out.below t9.b HX.out.lt);have HK2:=hJ (HK.out.later t9.b);have y1:=HX2.out.cell 1 _ rfl;have f1:=HX2.out.fz 1;clear z0 z1 Z0 Z1
      go_wp2_with fail
      go_roundg (gk - 1)
      case measure=>omega
      case rel=>exact ⟨j+1,by omega,by omega,HE2,hJ (HX2.out.set 1 _),hJ (HK2.out.set _ _)⟩
    · have hc:(c==32)=false:=by simpa using hc
      have HF:=hJ ((HNj.out hc).symm.trans HE.out)
      go_wp2_with fail
      refine kAA (by kernel_rfl) (by kernel_rfl) ?_
      repeat (go_big_quiet_step (fail))
      refine wpQuiet_nil ?_;rintro _ ⟨t9,rfl⟩;have HX2:=hJ (HX.out.below t9.b HX.out.lt);have HK2:=hJ (HK.out.later t9.b);clear z0 z1 Z0 Z1
      go_wp2_with fail
      go_end0;exact ⟨rfl,by rw [← HF.out];exact HX2.out,HK2.out⟩
  · obtain rfl:j=s.size:=by omega
    have q1:decide ((s.size:Int)<(s.size:Int))=false:=decide_eq_false (by omega);have HF:=hJ (HSt.out.symm.trans HE.out)
    go_wp2_with fail
    refine kAA (by kernel_rfl) (by kernel_rfl) ?_
    repeat (go_big_quiet_step (fail))
    refine wpQuiet_nil ?_;rintro _ ⟨t9,rfl⟩;have HX2:=hJ (HX.out.below t9.b HX.out.lt);have HK2:=hJ (HK.out.later t9.b);clear z0 z1 Z0 Z1
    go_wp2_with fail
    go_end0;exact ⟨rfl,by rw [← HF.out];exact HX2.out,HK2.out⟩
def isAt (s:Str) (k:Nat) (c:Int):Bool:=decide (k<s.size) && bt s k==c
def isTo (s:Str) (k:Nat) (c:Int):Nat:=if isAt s k c then k+1 else k
theorem kFH (s:Str) (hs:s.size≤1000000) (k p:Nat) (c:Int) (w:World) (hb:SrcAt s k p w) (hk:k≤s.size) :
 Calls Tryz.prog 119 #[.pointer (some ⟨p,0,none⟩),.int .u8 c] w fun e w'=>e= .returned (.bool (isAt s k c))∧SrcAt s (isTo s k c) p w'∧Kb p w w':=by
 have HX:=hJ hb;have HI:Hid (isAt s k c=(decide (k<s.size) && bt s k==c)):=hJ rfl;have z0:=hb.cell 0 _ rfl;have z1:=hb.cell 1 _ rfl;have Z0:=Later.cell z0;have Z1:=Later.cell z1;clear hb;go_enter func119,ntmps119;by_cases hlt:k<s.size
 · have q1:decide ((k:Int)<(s.size:Int))=true:=decide_eq_true (by omega)
   have g0:=kBH s k hlt;by_cases hc:(bt s k==c)=true
   · have HF:Hid (isAt s k c=true):=hJ (by rw [HI.out,hc,decide_eq_true hlt];rfl)
     clear HI;generalize bt s k=b at *
     go_wp2_with fail
     refine kAA (by kernel_rfl) (by kernel_rfl) ?_
     repeat (go_big_quiet_step (fail))
     refine wpQuiet_nil ?_;rintro _ ⟨t9,rfl⟩;have HX2:=hJ (HX.out.below t9.b HX.out.lt);have HK2:=hJ ((Kb.refl p _).later t9.b);have y1:=HX2.out.cell 1 _ rfl;have f1:=HX2.out.fz 1;clear z0 z1 Z0 Z1
     go_wp2_with fail
     go_ret;exact ⟨by rw [HF.out];rfl,by unfold isTo;rw [HF.out];exact HX2.out.set 1 _,HK2.out.set _ _⟩
   · have hc:(bt s k==c)=false:=by simpa using hc
     have HF:Hid (isAt s k c=false):=hJ (by rw [HI.out,hc,decide_eq_true hlt];rfl);clear HI;generalize bt s k=b at *
     go_wp2_with fail
     refine kAA (by kernel_rfl) (by kernel_rfl) ?_
     repeat (go_big_quiet_step (fail))
     refine wpQuiet_nil ?_;rintro _ ⟨t9,rfl⟩;have HX2:=hJ (HX.out.below t9.b HX.out.lt);have HK2:=hJ ((Kb.refl p _).later t9.b);clear z0 z1 Z0 Z1
     go_wp2_with fail
     go_ret;exact ⟨by rw [HF.out];rfl,by unfold isTo;rw [HF.out];exact HX2.out,HK2.out⟩
 · have q1:decide ((k:Int)<(s.size:Int))=false:=decide_eq_false (by omega)
   have HF:Hid (isAt s k c=false):=hJ (by rw [HI.out,decide_eq_false hlt];rfl);clear HI
   go_wp2_with fail
   refine kAA (by kernel_rfl) (by kernel_rfl) ?_
   repeat (go_big_quiet_step (fail))
   refine wpQuiet_nil ?_;rintro _ ⟨t9,rfl⟩;have HX2:=hJ (HX.out.below t9.b HX.out.lt);have HK2:=hJ ((Kb.refl p _).later t9.b);clear z0 z1 Z0 Z1
   go_wp2_with fail
   go_ret;exact ⟨by rw [HF.out];rfl,by unfold isTo;rw [HF.out];exact HX2.out,HK2.out⟩
def runP (names:Bool) (s:Str) (k i:Nat):Bool:=kAN (bt s i) || (names && (kAR (bt s i) || (bt s i==95 && decide (i=k))))
def runR (names:Bool) (s:Str) (k:Nat):Nat:=kBW (runP names s k) s.size k
theorem kDJ (s:Str) (hs:s.size≤1000000) (k p:Nat) (names:Bool) (w:World) (hb:SrcAt s k p w) (hk:k≤s.size) :
 Calls Tryz.prog 176 #[.pointer (some ⟨p,0,none⟩),.bool names] w fun e w'=>e= .returned (.string (s.extract k (runR names s k)))∧SrcAt s (runR names s k) p w'∧Kb p w w':=by
 have HB:=hJ hb;have z00:=hb.cell 1 _ rfl;have HY:Hid (∀ j,j<s.size→runP names s k j=true→kBW (runP names s k) s.size j=kBW (runP names s k) s.size (j+1)):=hJ (fun j hj h=>kDT hj h);have HNo:Hid (∀ j,runP names s k j=false→kBW (runP names s k) s.size j=j):=hJ (fun j h=>kB0 h);have HSt:Hid (kBW (runP names s k) s.size s.size=s.size):=hJ (kBO (Nat.le_refl _));have HR:Hid (kBW (runP names s k) s.size k=runR names s k):=hJ rfl;have HP:Hid (∀ j,runP names s k j=(kAN (bt s j) || (names && (kAR (bt s j) || (bt s j==95 && decide (j=k)))))):=hJ (fun _=>rfl);clear hb;go_enter func176,ntmps176
 go_wp2_with fail
 clear z00;generalize kBW (runP names s k) s.size=rt at *;generalize runP names s k=rp at *
 go_loopg [] (s.size - k) (fun g wr=>∃ j:Nat,k≤j∧j≤s.size∧s.size - j≤g∧Hid (rt j=runR names s k)∧Hid (SrcAt s j p wr)∧Hid (Kb p w wr))
 case atStart=>exact ⟨k,Nat.le_refl _,hk,Nat.le_refl _,HR,HB,hJ (Kb.refl _ _)⟩
 case round =>
  obtain ⟨j,hkj,hj,hg,HE,HX,HK⟩:=hrel;have z0:=HX.out.cell 0 _ rfl;have z1:=HX.out.cell 1 _ rfl;have Z0:=Later.cell z0;have Z1:=Later.cell z1;by_cases hlt:j<s.size
  · have q1:decide ((j:Int)<(s.size:Int))=true:=decide_eq_true (by omega)
    have g0:=kBH s j hlt;have HYj:=hJ (HY.out j hlt);have HNj:=hJ (HNo.out j);have HPj:=hJ (HP.out j);generalize bt s j=c at *;have hD:=fun W=>kB9 c W
    have hL:=fun W=>kC1 c W
    by_cases hd:kAN c=true
    · have HE2:=hJ ((HYj.out (by rw [HPj.out,hd];rfl)).symm.trans HE.out)
      simp only [hd] at hD;have HD:=hJ hD;have HL:=hJ hL;clear hD hL
      go_wp2_with fail
      refine kAA (by kernel_rfl) (by kernel_rfl) ?_
      repeat (go_big_quiet_step (first | fail | exact Later.same (HD.out _) | exact Later.same (HL.out _)))
      refine wpQuiet_nil ?_;rintro _ ⟨t9,rfl⟩;have HX2:=hJ (HX.out.below t9.b HX.out.lt);have HK2:=hJ (HK.out.later t9.b);have y1:=HX2.out.cell 1 _ rfl;have f1:=HX2.out.fz 1;clear z0 z1 Z0 Z1
      go_wp2_with fail
      go_roundg (gk - 1)
      case measure=>omega
      case rel=>exact ⟨j+1,by omega,by omega,by omega,HE2,hJ (HX2.out.set 1 _),hJ (HK2.out.set _ _)⟩
    · have hd:kAN c=false:=by simpa using hd
      simp only [hd] at hD;have HD:=hJ hD;clear hD;cases names with
      | false =>
        have HL:=hJ hL;clear hL;have HF:=hJ ((HNj.out (by rw [HPj.out,hd];rfl)).symm.trans HE.out)
        go_wp2_with fail
        refine kAA (by kernel_rfl) (by kernel_rfl) ?_
        repeat (go_big_quiet_step (first | fail | exact Later.same (HD.out _) | exact Later.same (HL.out _)))
        refine wpQuiet_nil ?_;rintro _ ⟨t9,rfl⟩;have HX2:=hJ (HX.out.below t9.b HX.out.lt);have HK2:=hJ (HK.out.later t9.b);have y0:=HX2.out.cell 0 _ rfl;have y1:=HX2.out.cell 1 _ rfl;have hkj':(k:Int)≤(j:Int):=by omega
        have hjs':(j:Int)≤(s.size:Int):=by omega
        clear z0 z1 Z0 Z1;generalize t9.w=wz at *;have Z0:=Later.cell y0;have Z1:=Later.cell y1
        go_wp2_with fail
        refine kAA (by kernel_rfl) (by kernel_rfl) ?_
        repeat (go_big_quiet_step (fail))
        refine wpQuiet_nil ?_;rintro _ ⟨t9,rfl⟩;have HX3:=hJ (HX2.out.below t9.b HX2.out.lt);have HK3:=hJ (HK2.out.later t9.b)
        go_wp2_with fail
        go_ret;exact ⟨by rw [← HF.out];first | rfl | simp,by rw [← HF.out];exact HX3.out,HK3.out⟩
      | true =>
        by_cases hl:kAR c=true
        · simp only [hl] at hL
          have HL:=hJ hL;clear hL;have HE2:=hJ ((HYj.out (by rw [HPj.out,hd,hl];rfl)).symm.trans HE.out)
          go_wp2_with fail
          refine kAA (by kernel_rfl) (by kernel_rfl) ?_
          repeat (go_big_quiet_step (first | fail | exact Later.same (HD.out _) | exact Later.same (HL.out _)))
          refine wpQuiet_nil ?_;rintro _ ⟨t9,rfl⟩;have HX2:=hJ (HX.out.below t9.b HX.out.lt);have HK2:=hJ (HK.out.later t9.b);have y1:=HX2.out.cell 1 _ rfl;have f1:=HX2.out.fz 1;clear z0 z1 Z0 Z1
          go_wp2_with fail
          go_roundg (gk - 1)
          case measure=>omega
          case rel=>exact ⟨j+1,by omega,by omega,by omega,HE2,hJ (HX2.out.set 1 _),hJ (HK2.out.set _ _)⟩
        · have hl:kAR c=false:=by simpa using hl
          simp only [hl] at hL;have HL:=hJ hL;clear hL;by_cases h95:(c==95)=true
          · by_cases hjk:j=k
            · have HE2:=hJ ((HYj.out (by rw [HPj.out,hd,hl,h95,decide_eq_true hjk];rfl)).symm.trans HE.out)
              subst hjk
              go_wp2_with fail
              refine kAA (by kernel_rfl) (by kernel_rfl) ?_
              repeat (go_big_quiet_step (first | fail | exact Later.same (HD.out _) | exact Later.same (HL.out _)))
              refine wpQuiet_nil ?_;rintro _ ⟨t9,rfl⟩;have HX2:=hJ (HX.out.below t9.b HX.out.lt);have HK2:=hJ (HK.out.later t9.b);have y1:=HX2.out.cell 1 _ rfl;have f1:=HX2.out.fz 1;clear z0 z1 Z0 Z1
              go_wp2_with fail
              go_roundg (gk - 1)
              case measure=>omega
              case rel=>exact ⟨j+1,by omega,by omega,by omega,HE2,hJ (HX2.out.set 1 _),hJ (HK2.out.set _ _)⟩
            · have hjk2:((j:Int)==(k:Int))=false:=beq_eq_false_iff_ne.2 (by omega)
              have HF:=hJ ((HNj.out (by rw [HPj.out,hd,hl,h95,decide_eq_false hjk];rfl)).symm.trans HE.out)
              go_wp2_with fail
              refine kAA (by kernel_rfl) (by kernel_rfl) ?_
              repeat (go_big_quiet_step (first | fail | exact Later.same (HD.out _) | exact Later.same (HL.out _)))
              refine wpQuiet_nil ?_;rintro _ ⟨t9,rfl⟩;have HX2:=hJ (HX.out.below t9.b HX.out.lt);have HK2:=hJ (HK.out.later t9.b);have y0:=HX2.out.cell 0 _ rfl;have y1:=HX2.out.cell 1 _ rfl;have hkj':(k:Int)≤(j:Int):=by omega
              have hjs':(j:Int)≤(s.size:Int):=by omega
              clear z0 z1 Z0 Z1;generalize t9.w=wz at *;have Z0:=Later.cell y0;have Z1:=Later.cell y1
              go_wp2_with fail
              refine kAA (by kernel_rfl) (by kernel_rfl) ?_
              repeat (go_big_quiet_step (fail))
              refine wpQuiet_nil ?_;rintro _ ⟨t9,rfl⟩;have HX3:=hJ (HX2.out.below t9.b HX2.out.lt);have HK3:=hJ (HK2.out.later t9.b)
              go_wp2_with fail
              go_ret;exact ⟨by rw [← HF.out];first | rfl | simp,by rw [← HF.out];exact HX3.out,HK3.out⟩
          · have h95:(c==95)=false:=by simpa using h95
            have HF:=hJ ((HNj.out (by rw [HPj.out,hd,hl,h95];rfl)).symm.trans HE.out)
            go_wp2_with fail
            refine kAA (by kernel_rfl) (by kernel_rfl) ?_
            repeat (go_big_quiet_step (first | fail | exact Later.same (HD.out _) | exact Later.same (HL.out _)))
            refine wpQuiet_nil ?_;rintro _ ⟨t9,rfl⟩;have HX2:=hJ (HX.out.below t9.b HX.out.lt);have HK2:=hJ (HK.out.later t9.b);have y0:=HX2.out.cell 0 _ rfl;have y1:=HX2.out.cell 1 _ rfl;have hkj':(k:Int)≤(j:Int):=by omega
            have hjs':(j:Int)≤(s.size:Int):=by omega
            clear z0 z1 Z0 Z1;generalize t9.w=wz at *;have Z0:=Later.cell y0;have Z1:=Later.cell y1
            go_wp2_with fail
            refine kAA (by kernel_rfl) (by kernel_rfl) ?_
            repeat (go_big_quiet_step (fail))
            refine wpQuiet_nil ?_;rintro _ ⟨t9,rfl⟩;have HX3:=hJ (HX2.out.below t9.b HX2.out.lt);have HK3:=hJ (HK2.out.later t9.b)
            go_wp2_with fail
            go_ret;exact ⟨by rw [← HF.out];first | rfl | simp,by rw [← HF.out];exact HX3.out,HK3.out⟩
  · have hje:j=s.size:=by omega
    have q1:decide ((j:Int)<(s.size:Int))=false:=decide_eq_false (by omega);have hrj:rt j=j:=by rw [hje];exact HSt.out
    have HF:=hJ (hrj.symm.trans HE.out);have HD:=hJ (fun W=>kB9 0 W);have HL:=HD;clear hje hrj
    go_wp2_with fail
    refine kAA (by kernel_rfl) (by kernel_rfl) ?_
    repeat (go_big_quiet_step (first | fail | exact Later.same (HD.out _) | exact Later.same (HL.out _)))
    refine wpQuiet_nil ?_;rintro _ ⟨t9,rfl⟩;have HX2:=hJ (HX.out.below t9.b HX.out.lt);have HK2:=hJ (HK.out.later t9.b);have y0:=HX2.out.cell 0 _ rfl;have y1:=HX2.out.cell 1 _ rfl;have hkj':(k:Int)≤(j:Int):=by omega
    have hjs':(j:Int)≤(s.size:Int):=by omega
    clear z0 z1 Z0 Z1;generalize t9.w=wz at *;have Z0:=Later.cell y0;have Z1:=Later.cell y1
    go_wp2_with fail
    refine kAA (by kernel_rfl) (by kernel_rfl) ?_
    repeat (go_big_quiet_step (fail))
    refine wpQuiet_nil ?_;rintro _ ⟨t9,rfl⟩;have HX3:=hJ (HX2.out.below t9.b HX2.out.lt);have HK3:=hJ (HK2.out.later t9.b)
    go_wp2_with fail
    go_ret;exact ⟨by rw [← HF.out];first | rfl | simp,by rw [← HF.out];exact HX3.out,HK3.out⟩
def decK (d:Str) (i:Nat):Int:=((nb d).take i).foldl (fun n c=>10 * n+(c - 48)) 0
def decV (d:Str):Int:=decK d d.size
theorem decK_next {d:Str} {i:Nat} (h:i<d.size):decK d (i+1)=10 * decK d i+(bt d i - 48):=by
 unfold decK;rw [kBB (by rw [kJY];exact h),List.foldl_append]
 show 10 * _+((nb d).getD i default - 48)=10 * _+(bt d i - 48)
 rfl
theorem decK_bd {d:Str} (hd:∀ i,i<d.size→kAN (bt d i)=true):∀ i,i≤d.size→0≤decK d i∧decK d i<10 ^ i
 | 0,_=>⟨Int.le_refl _,Int.zero_lt_one⟩
 | i+1,h=>by
   have ih:=decK_bd hd i (by omega);have h1:=of_decide_eq_true (hd i (by omega));rw [decK_next (by omega),Int.pow_succ];omega
theorem decK_lt {d:Str} (hd:∀ i,i<d.size→kAN (bt d i)=true) (h7:d.size≤7) {i:Nat} (h:i≤d.size):0≤decK d i∧decK d i<10000000:=by
 have h1:=decK_bd hd i h;refine ⟨h1.1,?_⟩;have h2:10 ^ i≤10 ^ 7:=Nat.pow_le_pow_right (by decide) (by omega);have h3:((10 ^ i:Nat):Int)=(10:Int) ^ i:=by simp
 have e:(10:Nat) ^ 7=10000000:=by decide
 omega
def longB (d:Str):Bool:=decide (7<d.size) || (decide (1<d.size) && bt d 0==48)
def kHH (s:Str) (k:Nat):Bool:=decide (k<s.size) && (kAR (bt s k) || bt s k==95)
def digAt (s:Str) (k:Nat):Bool:=decide (k<s.size) && kAN (bt s k)
def kFS (n:Int) (s:Str) (k:Nat):Int × Str × Bool × Nat:=(n,s.extract k (runR true s k),kAV (s.extract k (runR true s k)),runR true s k)
def itemN (n:Int) (s:Str) (e:Nat):Int × Str × Bool × Nat :=
 if kHH s e then kFS n s e
 else if isAt s (blk s e) 42 then if digAt s (blk s (blk s e+1)) then (0,⟨#[]⟩,false,blk s (blk s e+1)) else kFS n s (blk s (blk s e+1))
 else (n,⟨#[]⟩,true,e)
def kCD (s:Str) (k:Nat):Int × Str × Bool × Nat :=
 if longB (s.extract k (runR false s k)) then (0,⟨#[]⟩,false,runR false s k)
 else if (s.extract k (runR false s k)).toList.isEmpty then kFS 1 s (runR false s k)
 else itemN (decV (s.extract k (runR false s k))) s (runR false s k)
def itemEnd (r:Int × Str × Bool × Nat) (p:Nat) (s:Str) (w:World) (e:Ending) (w':World):Prop :=
 e= .returned (.tuple #[.int .i64 r.1,.string r.2.1,.bool r.2.2.1])∧SrcAt s r.2.2.2 p w'∧Kb p w w'
theorem src_item (s:Str) (hs:s.size≤1000000) (k p:Nat) (w:World) (hb:SrcAt s k p w) (hk:k≤s.size) :
 Calls Tryz.prog 120 #[.pointer (some ⟨p,0,none⟩)] w (itemEnd (kCD s k) p s w):=by
 have HB:=hJ hb;have hke:k≤runR false s k:=kB1 _ _ _;have hes:runR false s k≤s.size:=kCE hk
 have hdg:∀ i,i<(s.extract k (runR false s k)).size→kAN (bt (s.extract k (runR false s k)) i)=true:=fun i hi=>by
  rw [kBM s hes] at hi;rw [kIL s hes (by omega)];have:=kJS (P:=runP false s k) (n:=s.size) (s.size - k) k (k+i) (Nat.le_refl _) (by omega) (by show k+i<runR false s k;omega);unfold runP at this
  simpa using this
 have HD:=hJ hdg;have HZ:=hJ (kBM s (a:=k) hes);have HL:Hid (longB (s.extract k (runR false s k))=true→kCD s k=(0,⟨#[]⟩,false,runR false s k)):=hJ (fun q=>by unfold kCD;rw [if_pos q]);have HE:Hid (longB (s.extract k (runR false s k))=false→(s.extract k (runR false s k)).toList.isEmpty=true→kCD s k=kFS 1 s (runR false s k)):=hJ (fun q q2=>by unfold kCD;rw [if_neg (by rw [q];decide),if_pos q2]);have HN:Hid (longB (s.extract k (runR false s k))=false→(s.extract k (runR false s k)).toList.isEmpty=false→kCD s k=itemN (decV (s.extract k (runR false s k))) s (runR false s k)):=hJ (fun q q2=>by unfold kCD;rw [if_neg (by rw [q];decide),if_neg (by rw [q2];decide)]);clear hdg hb;go_enter func120,ntmps120
 go_wp2_with fail
 refine (kDJ s hs k p false _ HB.out hk).mono ?_;rintro e w1 ⟨rfl,hb1,hk1⟩;have HB1:=hJ hb1;have HK1:=hJ hk1;clear hb1 hk1 HB;generalize s.extract k (runR false s k)=d at *;generalize runR false s k=e at *;generalize kCD s k=R at *;have hdz:d.size=e - k:=HZ.out;have hlong:Hid (longB d=(decide (7<d.size) || (decide (1<d.size) && bt d 0==48))):=hJ rfl;by_cases h7:7<d.size
 · have q7:decide (7<(d.size:Int))=true:=decide_eq_true (by omega)
   have HF:=hJ (HL.out (by rw [hlong.out,decide_eq_true h7];rfl))
   go_wp2_with fail
   refine bodyPost_ret (v:=.tuple #[.int .i64 0,.string ⟨#[]⟩,.bool false]) (by simp [results,results120,go_sem]) rfl ?_;exact ⟨by rw [HF.out],by rw [HF.out];exact HB1.out,HK1.out⟩
 · have q7:decide (7<(d.size:Int))=false:=decide_eq_false (by omega)
   by_cases h1:1<d.size
   · have q1:decide (1<(d.size:Int))=true:=decide_eq_true (by omega)
     have g0:=kBH d 0 (by omega);by_cases h48:(bt d 0==48)=true
     · have HF:=hJ (HL.out (by rw [hlong.out,decide_eq_true h1,h48,decide_eq_false h7];rfl))
       clear hlong;generalize bt d 0=c0 at *
       go_wp2_with fail
       refine bodyPost_ret (v:=.tuple #[.int .i64 0,.string ⟨#[]⟩,.bool false]) (by simp [results,results120,go_sem]) rfl ?_;exact ⟨by rw [HF.out],by rw [HF.out];exact HB1.out,HK1.out⟩
     · have h48:(bt d 0==48)=false:=by simpa using h48
       have HNL:Hid (longB d=false):=hJ (by rw [hlong.out,decide_eq_true h1,h48,decide_eq_false h7];rfl);clear hlong HL;have HDK:Hid (∀ j,j≤d.size→0≤decK d j∧decK d j<10000000):=hJ (fun j hj=>decK_lt HD.out (by omega) hj);have HDN:Hid (∀ j,j<d.size→decK d (j+1)=10 * decK d j+(bt d j - 48)):=hJ (fun j hj=>decK_next hj);have HDV:Hid (decK d d.size=decV d):=hJ rfl;have HD0:Hid (decK d 0=0):=hJ rfl
       go_wp2_with fail
       go_loopw [6,7] (fun n i wr=>∃ j:Nat,j≤d.size∧i= .int .i64 j∧n= .int .i64 (decK d j)∧wr=w1) (fun _ i _=>d.size - (intOf i).toNat)
       case atStart=>exact ⟨0,Nat.zero_le _,rfl,by rw [HD0.out],rfl⟩
       case round =>
        obtain ⟨j,hj,rfl,rfl,rfl⟩:=hrel;by_cases hlt:j<d.size
        · have qj:decide ((j:Int)<(d.size:Int))=true:=decide_eq_true (by omega)
          have gj:=kBH d j hlt;have hc:=of_decide_eq_true (HD.out j hlt);have hn:=HDK.out j (by omega);have HNx:=hJ (HDN.out j hlt);generalize bt d j=c at *;generalize decK d j=n at *;have hc1:48≤c:=hc.1;have hc2:c≤57:=hc.2;have hw8:IntKind.u8.wrap (c - 48)=c - 48:=by rw [IntKind.wrap_u8];omega
          have hw1:IntKind.i64.wrap (10 * n)=10 * n:=by rw [IntKind.wrap_i64];omega
          have hw2:IntKind.i64.wrap (10 * n+(c - 48))=10 * n+(c - 48):=by rw [IntKind.wrap_i64];omega
          clear hc hn HE HN HNL HD
          go_wp2_with fail
          go_roundw
          case rel=>exact ⟨j+1,by omega,by go_num,by rw [HNx.out],trivial⟩
          case measure=>simp [intOf];omega
        · obtain rfl:j=d.size:=by omega
          have qj:decide ((d.size:Int)<(d.size:Int))=false:=decide_eq_false (by omega);have hn:=HDK.out d.size (Nat.le_refl _);rw [HDV.out] at hn ⊢;clear HDK HDN HDV HD0 HD;have HBq:=HB1;have HKq:=HK1;have hbs:e≤s.size:=hes;cases hemp:d.toList.isEmpty with
          | true =>
            have HF:=hJ (HE.out HNL.out hemp);clear HE HN HNL
            go_wp2_with fail
            go_wp2_with fail
            refine (kDJ s hs e p true _ HBq.out hbs).mono ?_;rintro e2 w9 ⟨rfl,hb9,hk9⟩;have HB9:=hJ hb9;have HK9:Hid (Kb p w w9):=hJ (HKq.out.trans hk9);have hz9:(s.extract e (runR true s e)).size≤281474976710656:=by rw [ByteArray.size_extract];omega
            have HC:=hJ (fun W=>kA7 (s.extract e (runR true s e)) W hz9);have HNA:Hid (R=(1,s.extract e (runR true s e),kAV (s.extract e (runR true s e)),runR true s e)):=hJ HF.out;clear hb9 hk9 hz9 HBq HKq HF;generalize runR true s e=e9 at *;generalize s.extract e e9=v9 at *
            go_wp2_with fail
            refine (HC.out _).mono ?_;rintro e _ ⟨rfl,rfl⟩
            go_wp2_with fail
            generalize kAV v9=o9 at *;refine bodyPost_ret (v:=.tuple #[.int .i64 1,.string v9,.bool o9]) (by simp [results,results120,go_sem]) rfl ?_;exact ⟨by rw [HNA.out],by rw [HNA.out];exact HB9.out,HK9.out⟩
          | false =>
            have HM:=hJ (HN.out HNL.out hemp);clear HE HN HNL;generalize decV d=n at *;have HB5:=HB1;have HK5:=HK1;clear HB1 HK1 HBq HKq;have HW:Hid (kHH s e=(decide (e<s.size) && (kAR (bt s e) || bt s e==95))):=hJ rfl;have HMn:Hid (kHH s e=true→R=kFS n s e):=hJ (fun q=>by rw [HM.out];unfold itemN;rw [if_pos q]);have HMr:Hid (kHH s e=false→R=if isAt s (blk s e) 42 then if digAt s (blk s (blk s e+1)) then (0,⟨#[]⟩,false,blk s (blk s e+1)) else kFS n s (blk s (blk s e+1)) else (n,⟨#[]⟩,true,e)):=hJ (fun q=>by rw [HM.out];unfold itemN;rw [if_neg (by rw [q];decide)]);clear HM;have z0:=HB5.out.cell 0 _ rfl;have z1:=HB5.out.cell 1 _ rfl;have Z0:=Later.cell z0;have Z1:=Later.cell z1;by_cases hlt:e<s.size
            · have qe:decide ((e:Int)<(s.size:Int))=true:=decide_eq_true (by omega)
              have ge:=kBH s e hlt;have hL:=fun W=>kC1 (bt s e) W
              generalize bt s e=c at *;by_cases hl:kAR c=true
              · have HF:=hJ (HMn.out (by rw [HW.out,hl,decide_eq_true hlt];rfl))
                simp only [hl] at hL;have HLt:=hJ hL;clear hL HMn HMr HW
                go_wp2_with fail
                refine kAA (by kernel_rfl) (by kernel_rfl) ?_
                repeat (go_big_quiet_step (first | fail | exact Later.same (HLt.out _)))
                refine wpQuiet_nil ?_;rintro _ ⟨t9,rfl⟩;have HBq:=hJ (HB5.out.below t9.b HB5.out.lt);have HKq:=hJ (HK5.out.later t9.b);clear z0 z1 Z0 Z1 HB5 HK5;generalize t9.w=W6 at *
                go_wp2_with fail
                refine (kDJ s hs e p true _ HBq.out hbs).mono ?_;rintro e2 w9 ⟨rfl,hb9,hk9⟩;have HB9:=hJ hb9;have HK9:Hid (Kb p w w9):=hJ (HKq.out.trans hk9);have hz9:(s.extract e (runR true s e)).size≤281474976710656:=by rw [ByteArray.size_extract];omega
                have HC:=hJ (fun W=>kA7 (s.extract e (runR true s e)) W hz9);have HNA:Hid (R=(n,s.extract e (runR true s e),kAV (s.extract e (runR true s e)),runR true s e)):=hJ HF.out;clear hb9 hk9 hz9 HBq HKq HF;generalize runR true s e=e9 at *;generalize s.extract e e9=v9 at *
                go_wp2_with fail
                refine (HC.out _).mono ?_;rintro e _ ⟨rfl,rfl⟩
                go_wp2_with fail
                generalize kAV v9=o9 at *;refine bodyPost_ret (v:=.tuple #[.int .i64 n,.string v9,.bool o9]) (by simp [results,results120,go_sem]) rfl ?_;exact ⟨by rw [HNA.out],by rw [HNA.out];exact HB9.out,HK9.out⟩
              · have hl:kAR c=false:=by simpa using hl
                simp only [hl] at hL;have HLt:=hJ hL;clear hL;by_cases h95:(c==95)=true
                · have HF:=hJ (HMn.out (by rw [HW.out,hl,h95,decide_eq_true hlt];rfl))
                  clear HMn HMr HW
                  go_wp2_with fail
                  refine kAA (by kernel_rfl) (by kernel_rfl) ?_
                  repeat (go_big_quiet_step (first | fail | exact Later.same (HLt.out _)))
                  refine wpQuiet_nil ?_;rintro _ ⟨t9,rfl⟩;have HBq:=hJ (HB5.out.below t9.b HB5.out.lt);have HKq:=hJ (HK5.out.later t9.b);clear z0 z1 Z0 Z1 HB5 HK5;generalize t9.w=W6 at *
                  go_wp2_with fail
                  refine (kDJ s hs e p true _ HBq.out hbs).mono ?_;rintro e2 w9 ⟨rfl,hb9,hk9⟩;have HB9:=hJ hb9;have HK9:Hid (Kb p w w9):=hJ (HKq.out.trans hk9);have hz9:(s.extract e (runR true s e)).size≤281474976710656:=by rw [ByteArray.size_extract];omega
                  have HC:=hJ (fun W=>kA7 (s.extract e (runR true s e)) W hz9);have HNA:Hid (R=(n,s.extract e (runR true s e),kAV (s.extract e (runR true s e)),runR true s e)):=hJ HF.out;clear hb9 hk9 hz9 HBq HKq HF;generalize runR true s e=e9 at *;generalize s.extract e e9=v9 at *
                  go_wp2_with fail
                  refine (HC.out _).mono ?_;rintro e _ ⟨rfl,rfl⟩
                  go_wp2_with fail
                  generalize kAV v9=o9 at *;refine bodyPost_ret (v:=.tuple #[.int .i64 n,.string v9,.bool o9]) (by simp [results,results120,go_sem]) rfl ?_;exact ⟨by rw [HNA.out],by rw [HNA.out];exact HB9.out,HK9.out⟩
                · have h95:(c==95)=false:=by simpa using h95
                  have HM2:=hJ (HMr.out (by rw [HW.out,hl,h95,decide_eq_true hlt];rfl));clear HMn HMr HW
                  go_wp2_with fail
                  refine kAA (by kernel_rfl) (by kernel_rfl) ?_
                  repeat (go_big_quiet_step (first | fail | exact Later.same (HLt.out _)))
                  refine wpQuiet_nil ?_;rintro _ ⟨t9,rfl⟩;have HBw:=hJ (HB5.out.below t9.b HB5.out.lt);have HKw:=hJ (HK5.out.later t9.b);clear z0 z1 Z0 Z1 HB5 HK5;generalize t9.w=W6 at *;have z1:=HBw.out.cell 1 _ rfl
                  go_wp2_with fail
                  clear z1;refine (kBK s hs e p _ HBw.out hes).mono ?_;rintro e2 w7 ⟨rfl,hb7,hk7⟩;have HB7:=hJ hb7;have HK7:=hJ (HKw.out.trans hk7);clear hb7 hk7 HBw HKw;have hb0:blk s e≤s.size:=kCE hes;generalize blk s e=b0 at *
                  go_wp2_with fail
                  refine (kFH s hs b0 p 42 _ HB7.out hb0).mono ?_;rintro e2 w8 ⟨rfl,hb8,hk8⟩;have HB8:=hJ hb8;have HK8:=hJ (HK7.out.trans hk8);clear hb8 hk8 HB7 HK7;cases his:isAt s b0 42 with
                  | false =>
                    have HF:Hid (R=(n,⟨#[]⟩,true,e)):=hJ (by rw [HM2.out,if_neg (by rw [his];decide)]);have y1:=HB8.out.cell 1 _ rfl;have f1:=HB8.out.fz 1
                    go_wp2_with fail
                    refine bodyPost_ret (v:=.tuple #[.int .i64 n,.string ⟨#[]⟩,.bool true]) (by simp [results,results120,go_sem]) rfl ?_;exact ⟨by rw [HF.out],by rw [HF.out];exact HB8.out.set 1 _,HK8.out.set _ _⟩
                  | true =>
                    have hto:isTo s b0 42=b0+1:=by unfold isTo;rw [his];rfl
                    have hb1:b0+1≤s.size:=by
                     unfold isAt at his;rw [Bool.and_eq_true] at his;have:=of_decide_eq_true his.1;omega
                    rw [hto] at HB8;have HM3:=HM2.out;rw [if_pos his] at HM3;have HM4:=hJ HM3;clear HM2 HM3 his hto
                    go_wp2_with fail
                    refine (kBK s hs (b0+1) p _ HB8.out hb1).mono ?_;rintro e2 w9 ⟨rfl,hb9,hk9⟩;have HB5:=hJ hb9;have HK5:=hJ (HK8.out.trans hk9);clear hb9 hk9 HB8 HK8;have hbs:blk s (b0+1)≤s.size:=kCE hb1;generalize blk s (b0+1)=b2 at *;have HDa:Hid (digAt s b2=(decide (b2<s.size) && kAN (bt s b2))):=hJ rfl;have z0:=HB5.out.cell 0 _ rfl;have z1:=HB5.out.cell 1 _ rfl;have Z0:=Later.cell z0;have Z1:=Later.cell z1;by_cases hlt2:b2<s.size
                    · have qe2:decide ((b2:Int)<(s.size:Int))=true:=decide_eq_true (by omega)
                      have ge2:=kBH s b2 hlt2;have hD:=fun W=>kB9 (bt s b2) W
                      generalize bt s b2=c2 at *;by_cases hd2:kAN c2=true
                      · have HF:Hid (R=(0,⟨#[]⟩,false,b2)):=hJ (by rw [HM4.out,if_pos (by rw [HDa.out,hd2,decide_eq_true hlt2];rfl)])
                        simp only [hd2] at hD;have HD:=hJ hD;clear hD HM4 HDa
                        go_wp2_with fail
                        refine kAA (by kernel_rfl) (by kernel_rfl) ?_
                        repeat (go_big_quiet_step (first | fail | exact Later.same (HD.out _)))
                        refine wpQuiet_nil ?_;rintro _ ⟨t9,rfl⟩;have HBq:=hJ (HB5.out.below t9.b HB5.out.lt);have HKq:=hJ (HK5.out.later t9.b);clear z0 z1 Z0 Z1
                        go_wp2_with fail
                        refine bodyPost_ret (v:=.tuple #[.int .i64 0,.string ⟨#[]⟩,.bool false]) (by simp [results,results120,go_sem]) rfl ?_;exact ⟨by rw [HF.out],by rw [HF.out];exact HBq.out,HKq.out⟩
                      · have hd2:kAN c2=false:=by simpa using hd2
                        have HF:Hid (R=kFS n s b2):=hJ (by rw [HM4.out,if_neg (by rw [HDa.out,hd2,decide_eq_true hlt2];decide)]);simp only [hd2] at hD;have HD:=hJ hD;clear hD HM4 HDa
                        go_wp2_with fail
                        refine kAA (by kernel_rfl) (by kernel_rfl) ?_
                        repeat (go_big_quiet_step (first | fail | exact Later.same (HD.out _)))
                        refine wpQuiet_nil ?_;rintro _ ⟨t9,rfl⟩;have HBq:=hJ (HB5.out.below t9.b HB5.out.lt);have HKq:=hJ (HK5.out.later t9.b);clear z0 z1 Z0 Z1 HB5 HK5;generalize t9.w=W9 at *
                        go_wp2_with fail
                        refine (kDJ s hs b2 p true _ HBq.out hbs).mono ?_;rintro e2 w9 ⟨rfl,hb9,hk9⟩;have HB9:=hJ hb9;have HK9:Hid (Kb p w w9):=hJ (HKq.out.trans hk9);have hz9:(s.extract b2 (runR true s b2)).size≤281474976710656:=by rw [ByteArray.size_extract];omega
                        have HC:=hJ (fun W=>kA7 (s.extract b2 (runR true s b2)) W hz9);have HNA:Hid (R=(n,s.extract b2 (runR true s b2),kAV (s.extract b2 (runR true s b2)),runR true s b2)):=hJ HF.out;clear hb9 hk9 hz9 HBq HKq HF;generalize runR true s b2=e9 at *;generalize s.extract b2 e9=v9 at *
                        go_wp2_with fail
                        refine (HC.out _).mono ?_;rintro e _ ⟨rfl,rfl⟩
                        go_wp2_with fail
                        generalize kAV v9=o9 at *;refine bodyPost_ret (v:=.tuple #[.int .i64 n,.string v9,.bool o9]) (by simp [results,results120,go_sem]) rfl ?_;exact ⟨by rw [HNA.out],by rw [HNA.out];exact HB9.out,HK9.out⟩
                    · have qe2:decide ((b2:Int)<(s.size:Int))=false:=decide_eq_false (by omega)
                      have HF:Hid (R=kFS n s b2):=hJ (by rw [HM4.out,if_neg (by rw [HDa.out,decide_eq_false hlt2,Bool.false_and];decide)]);clear HM4 HDa
                      go_wp2_with fail
                      refine kAA (by kernel_rfl) (by kernel_rfl) ?_
                      repeat (go_big_quiet_step (fail))
                      refine wpQuiet_nil ?_;rintro _ ⟨t9,rfl⟩;have HBq:=hJ (HB5.out.below t9.b HB5.out.lt);have HKq:=hJ (HK5.out.later t9.b);clear z0 z1 Z0 Z1 HB5 HK5;generalize t9.w=W9 at *
                      go_wp2_with fail
                      refine (kDJ s hs b2 p true _ HBq.out hbs).mono ?_;rintro e2 w9 ⟨rfl,hb9,hk9⟩;have HB9:=hJ hb9;have HK9:Hid (Kb p w w9):=hJ (HKq.out.trans hk9);have hz9:(s.extract b2 (runR true s b2)).size≤281474976710656:=by rw [ByteArray.size_extract];omega
                      have HC:=hJ (fun W=>kA7 (s.extract b2 (runR true s b2)) W hz9);have HNA:Hid (R=(n,s.extract b2 (runR true s b2),kAV (s.extract b2 (runR true s b2)),runR true s b2)):=hJ HF.out;clear hb9 hk9 hz9 HBq HKq HF;generalize runR true s b2=e9 at *;generalize s.extract b2 e9=v9 at *
                      go_wp2_with fail
                      refine (HC.out _).mono ?_;rintro e _ ⟨rfl,rfl⟩
                      go_wp2_with fail
                      generalize kAV v9=o9 at *;refine bodyPost_ret (v:=.tuple #[.int .i64 n,.string v9,.bool o9]) (by simp [results,results120,go_sem]) rfl ?_;exact ⟨by rw [HNA.out],by rw [HNA.out];exact HB9.out,HK9.out⟩
            · have qe:decide ((e:Int)<(s.size:Int))=false:=decide_eq_false (by omega)
              have HM2:=hJ (HMr.out (by rw [HW.out,decide_eq_false hlt];rfl));clear HMn HMr HW
              go_wp2_with fail
              refine kAA (by kernel_rfl) (by kernel_rfl) ?_
              repeat (go_big_quiet_step (fail))
              refine wpQuiet_nil ?_;rintro _ ⟨t9,rfl⟩;have HBw:=hJ (HB5.out.below t9.b HB5.out.lt);have HKw:=hJ (HK5.out.later t9.b);clear z0 z1 Z0 Z1 HB5 HK5;generalize t9.w=W6 at *;have z1:=HBw.out.cell 1 _ rfl
              go_wp2_with fail
              clear z1;refine (kBK s hs e p _ HBw.out hes).mono ?_;rintro e2 w7 ⟨rfl,hb7,hk7⟩;have HB7:=hJ hb7;have HK7:=hJ (HKw.out.trans hk7);clear hb7 hk7 HBw HKw;have hb0:blk s e≤s.size:=kCE hes;generalize blk s e=b0 at *
              go_wp2_with fail
              refine (kFH s hs b0 p 42 _ HB7.out hb0).mono ?_;rintro e2 w8 ⟨rfl,hb8,hk8⟩;have HB8:=hJ hb8;have HK8:=hJ (HK7.out.trans hk8);clear hb8 hk8 HB7 HK7;cases his:isAt s b0 42 with
              | false =>
                have HF:Hid (R=(n,⟨#[]⟩,true,e)):=hJ (by rw [HM2.out,if_neg (by rw [his];decide)]);have y1:=HB8.out.cell 1 _ rfl;have f1:=HB8.out.fz 1
                go_wp2_with fail
                refine bodyPost_ret (v:=.tuple #[.int .i64 n,.string ⟨#[]⟩,.bool true]) (by simp [results,results120,go_sem]) rfl ?_;exact ⟨by rw [HF.out],by rw [HF.out];exact HB8.out.set 1 _,HK8.out.set _ _⟩
              | true =>
                have hto:isTo s b0 42=b0+1:=by unfold isTo;rw [his];rfl
                have hb1:b0+1≤s.size:=by
                 unfold isAt at his;rw [Bool.and_eq_true] at his;have:=of_decide_eq_true his.1;omega
                rw [hto] at HB8;have HM3:=HM2.out;rw [if_pos his] at HM3;have HM4:=hJ HM3;clear HM2 HM3 his hto
                go_wp2_with fail
                refine (kBK s hs (b0+1) p _ HB8.out hb1).mono ?_;rintro e2 w9 ⟨rfl,hb9,hk9⟩;have HB5:=hJ hb9;have HK5:=hJ (HK8.out.trans hk9);clear hb9 hk9 HB8 HK8;have hbs:blk s (b0+1)≤s.size:=kCE hb1;generalize blk s (b0+1)=b2 at *;have HDa:Hid (digAt s b2=(decide (b2<s.size) && kAN (bt s b2))):=hJ rfl;have z0:=HB5.out.cell 0 _ rfl;have z1:=HB5.out.cell 1 _ rfl;have Z0:=Later.cell z0;have Z1:=Later.cell z1;by_cases hlt2:b2<s.size
                · have qe2:decide ((b2:Int)<(s.size:Int))=true:=decide_eq_true (by omega)
                  have ge2:=kBH s b2 hlt2;have hD:=fun W=>kB9 (bt s b2) W
                  generalize bt s b2=c2 at *;by_cases hd2:kAN c2=true
                  · have HF:Hid (R=(0,⟨#[]⟩,false,b2)):=hJ (by rw [HM4.out,if_pos (by rw [HDa.out,hd2,decide_eq_true hlt2];rfl)])
                    simp only [hd2] at hD;have HD:=hJ hD;clear hD HM4 HDa
                    go_wp2_with fail
                    refine kAA (by kernel_rfl) (by kernel_rfl) ?_
                    repeat (go_big_quiet_step (first | fail | exact Later.same (HD.out _)))
                    refine wpQuiet_nil ?_;rintro _ ⟨t9,rfl⟩;have HBq:=hJ (HB5.out.below t9.b HB5.out.lt);have HKq:=hJ (HK5.out.later t9.b);clear z0 z1 Z0 Z1
                    go_wp2_with fail
                    refine bodyPost_ret (v:=.tuple #[.int .i64 0,.string ⟨#[]⟩,.bool false]) (by simp [results,results120,go_sem]) rfl ?_;exact ⟨by rw [HF.out],by rw [HF.out];exact HBq.out,HKq.out⟩
                  · have hd2:kAN c2=false:=by simpa using hd2
                    have HF:Hid (R=kFS n s b2):=hJ (by rw [HM4.out,if_neg (by rw [HDa.out,hd2,decide_eq_true hlt2];decide)]);simp only [hd2] at hD;have HD:=hJ hD;clear hD HM4 HDa
                    go_wp2_with fail
                    refine kAA (by kernel_rfl) (by kernel_rfl) ?_
                    repeat (go_big_quiet_step (first | fail | exact Later.same (HD.out _)))
                    refine wpQuiet_nil ?_;rintro _ ⟨t9,rfl⟩;have HBq:=hJ (HB5.out.below t9.b HB5.out.lt);have HKq:=hJ (HK5.out.later t9.b);clear z0 z1 Z0 Z1 HB5 HK5;generalize t9.w=W9 at *
                    go_wp2_with fail
                    refine (kDJ s hs b2 p true _ HBq.out hbs).mono ?_;rintro e2 w9 ⟨rfl,hb9,hk9⟩;have HB9:=hJ hb9;have HK9:Hid (Kb p w w9):=hJ (HKq.out.trans hk9);have hz9:(s.extract b2 (runR true s b2)).size≤281474976710656:=by rw [ByteArray.size_extract];omega
                    have HC:=hJ (fun W=>kA7 (s.extract b2 (runR true s b2)) W hz9);have HNA:Hid (R=(n,s.extract b2 (runR true s b2),kAV (s.extract b2 (runR true s b2)),runR true s b2)):=hJ HF.out;clear hb9 hk9 hz9 HBq HKq HF;generalize runR true s b2=e9 at *;generalize s.extract b2 e9=v9 at *
                    go_wp2_with fail
                    refine (HC.out _).mono ?_;rintro e _ ⟨rfl,rfl⟩
                    go_wp2_with fail
                    generalize kAV v9=o9 at *;refine bodyPost_ret (v:=.tuple #[.int .i64 n,.string v9,.bool o9]) (by simp [results,results120,go_sem]) rfl ?_;exact ⟨by rw [HNA.out],by rw [HNA.out];exact HB9.out,HK9.out⟩
                · have qe2:decide ((b2:Int)<(s.size:Int))=false:=decide_eq_false (by omega)
                  have HF:Hid (R=kFS n s b2):=hJ (by rw [HM4.out,if_neg (by rw [HDa.out,decide_eq_false hlt2,Bool.false_and];decide)]);clear HM4 HDa
                  go_wp2_with fail
                  refine kAA (by kernel_rfl) (by kernel_rfl) ?_
                  repeat (go_big_quiet_step (fail))
                  refine wpQuiet_nil ?_;rintro _ ⟨t9,rfl⟩;have HBq:=hJ (HB5.out.below t9.b HB5.out.lt);have HKq:=hJ (HK5.out.later t9.b);clear z0 z1 Z0 Z1 HB5 HK5;generalize t9.w=W9 at *
                  go_wp2_with fail
                  refine (kDJ s hs b2 p true _ HBq.out hbs).mono ?_;rintro e2 w9 ⟨rfl,hb9,hk9⟩;have HB9:=hJ hb9;have HK9:Hid (Kb p w w9):=hJ (HKq.out.trans hk9);have hz9:(s.extract b2 (runR true s b2)).size≤281474976710656:=by rw [ByteArray.size_extract];omega
                  have HC:=hJ (fun W=>kA7 (s.extract b2 (runR true s b2)) W hz9);have HNA:Hid (R=(n,s.extract b2 (runR true s b2),kAV (s.extract b2 (runR true s b2)),runR true s b2)):=hJ HF.out;clear hb9 hk9 hz9 HBq HKq HF;generalize runR true s b2=e9 at *;generalize s.extract b2 e9=v9 at *
                  go_wp2_with fail
                  refine (HC.out _).mono ?_;rintro e _ ⟨rfl,rfl⟩
                  go_wp2_with fail
                  generalize kAV v9=o9 at *;refine bodyPost_ret (v:=.tuple #[.int .i64 n,.string v9,.bool o9]) (by simp [results,results120,go_sem]) rfl ?_;exact ⟨by rw [HNA.out],by rw [HNA.out];exact HB9.out,HK9.out⟩
   · have q1:decide (1<(d.size:Int))=false:=decide_eq_false (by omega)
     have HNL:Hid (longB d=false):=hJ (by rw [hlong.out,decide_eq_false h1,decide_eq_false h7];rfl);clear hlong HL;have HDK:Hid (∀ j,j≤d.size→0≤decK d j∧decK d j<10000000):=hJ (fun j hj=>decK_lt HD.out (by omega) hj);have HDN:Hid (∀ j,j<d.size→decK d (j+1)=10 * decK d j+(bt d j - 48)):=hJ (fun j hj=>decK_next hj);have HDV:Hid (decK d d.size=decV d):=hJ rfl;have HD0:Hid (decK d 0=0):=hJ rfl
     go_wp2_with fail
     go_loopw [6,7] (fun n i wr=>∃ j:Nat,j≤d.size∧i= .int .i64 j∧n= .int .i64 (decK d j)∧wr=w1) (fun _ i _=>d.size - (intOf i).toNat)
     case atStart=>exact ⟨0,Nat.zero_le _,rfl,by rw [HD0.out],rfl⟩
     case round =>
      obtain ⟨j,hj,rfl,rfl,rfl⟩:=hrel;by_cases hlt:j<d.size
      · have qj:decide ((j:Int)<(d.size:Int))=true:=decide_eq_true (by omega)
        have gj:=kBH d j hlt;have hc:=of_decide_eq_true (HD.out j hlt);have hn:=HDK.out j (by omega);have HNx:=hJ (HDN.out j hlt);generalize bt d j=c at *;generalize decK d j=n at *;have hc1:48≤c:=hc.1;have hc2:c≤57:=hc.2;have hw8:IntKind.u8.wrap (c - 48)=c - 48:=by rw [IntKind.wrap_u8];omega
        have hw1:IntKind.i64.wrap (10 * n)=10 * n:=by rw [IntKind.wrap_i64];omega
        have hw2:IntKind.i64.wrap (10 * n+(c - 48))=10 * n+(c - 48):=by rw [IntKind.wrap_i64];omega
        clear hc hn HE HN HNL HD
        go_wp2_with fail
        go_roundw
        case rel=>exact ⟨j+1,by omega,by go_num,by rw [HNx.out],trivial⟩
        case measure=>simp [intOf];omega
      · obtain rfl:j=d.size:=by omega
        have qj:decide ((d.size:Int)<(d.size:Int))=false:=decide_eq_false (by omega);have hn:=HDK.out d.size (Nat.le_refl _);rw [HDV.out] at hn ⊢;clear HDK HDN HDV HD0 HD;have HBq:=HB1;have HKq:=HK1;have hbs:e≤s.size:=hes;cases hemp:d.toList.isEmpty with
        | true =>
          have HF:=hJ (HE.out HNL.out hemp);clear HE HN HNL
          go_wp2_with fail
          go_wp2_with fail
          refine (kDJ s hs e p true _ HBq.out hbs).mono ?_;rintro e2 w9 ⟨rfl,hb9,hk9⟩;have HB9:=hJ hb9;have HK9:Hid (Kb p w w9):=hJ (HKq.out.trans hk9);have hz9:(s.extract e (runR true s e)).size≤281474976710656:=by rw [ByteArray.size_extract];omega
          have HC:=hJ (fun W=>kA7 (s.extract e (runR true s e)) W hz9);have HNA:Hid (R=(1,s.extract e (runR true s e),kAV (s.extract e (runR true s e)),runR true s e)):=hJ HF.out;clear hb9 hk9 hz9 HBq HKq HF;generalize runR true s e=e9 at *;generalize s.extract e e9=v9 at *
          go_wp2_with fail
          refine (HC.out _).mono ?_;rintro e _ ⟨rfl,rfl⟩
          go_wp2_with fail
          generalize kAV v9=o9 at *;refine bodyPost_ret (v:=.tuple #[.int .i64 1,.string v9,.bool o9]) (by simp [results,results120,go_sem]) rfl ?_;exact ⟨by rw [HNA.out],by rw [HNA.out];exact HB9.out,HK9.out⟩
        | false =>
          have HM:=hJ (HN.out HNL.out hemp);clear HE HN HNL;generalize decV d=n at *;have HB5:=HB1;have HK5:=HK1;clear HB1 HK1 HBq HKq;have HW:Hid (kHH s e=(decide (e<s.size) && (kAR (bt s e) || bt s e==95))):=hJ rfl;have HMn:Hid (kHH s e=true→R=kFS n s e):=hJ (fun q=>by rw [HM.out];unfold itemN;rw [if_pos q]);have HMr:Hid (kHH s e=false→R=if isAt s (blk s e) 42 then if digAt s (blk s (blk s e+1)) then (0,⟨#[]⟩,false,blk s (blk s e+1)) else kFS n s (blk s (blk s e+1)) else (n,⟨#[]⟩,true,e)):=hJ (fun q=>by rw [HM.out];unfold itemN;rw [if_neg (by rw [q];decide)]);clear HM;have z0:=HB5.out.cell 0 _ rfl;have z1:=HB5.out.cell 1 _ rfl;have Z0:=Later.cell z0;have Z1:=Later.cell z1;by_cases hlt:e<s.size
          · have qe:decide ((e:Int)<(s.size:Int))=true:=decide_eq_true (by omega)
            have ge:=kBH s e hlt;have hL:=fun W=>kC1 (bt s e) W
            generalize bt s e=c at *;by_cases hl:kAR c=true
            · have HF:=hJ (HMn.out (by rw [HW.out,hl,decide_eq_true hlt];rfl))
              simp only [hl] at hL;have HLt:=hJ hL;clear hL HMn HMr HW
              go_wp2_with fail
              refine kAA (by kernel_rfl) (by kernel_rfl) ?_
              repeat (go_big_quiet_step (first | fail | exact Later.same (HLt.out _)))
              refine wpQuiet_nil ?_;rintro _ ⟨t9,rfl⟩;have HBq:=hJ (HB5.out.below t9.b HB5.out.lt);have HKq:=hJ (HK5.out.later t9.b);clear z0 z1 Z0 Z1 HB5 HK5;generalize t9.w=W6 at *
              go_wp2_with fail
              refine (kDJ s hs e p true _ HBq.out hbs).mono ?_;rintro e2 w9 ⟨rfl,hb9,hk9⟩;have HB9:=hJ hb9;have HK9:Hid (Kb p w w9):=hJ (HKq.out.trans hk9);have hz9:(s.extract e (runR true s e)).size≤281474976710656:=by rw [ByteArray.size_extract];omega
              have HC:=hJ (fun W=>kA7 (s.extract e (runR true s e)) W hz9);have HNA:Hid (R=(n,s.extract e (runR true s e),kAV (s.extract e (runR true s e)),runR true s e)):=hJ HF.out;clear hb9 hk9 hz9 HBq HKq HF;generalize runR true s e=e9 at *;generalize s.extract e e9=v9 at *
              go_wp2_with fail
              refine (HC.out _).mono ?_;rintro e _ ⟨rfl,rfl⟩
              go_wp2_with fail
              generalize kAV v9=o9 at *;refine bodyPost_ret (v:=.tuple #[.int .i64 n,.string v9,.bool o9]) (by simp [results,results120,go_sem]) rfl ?_;exact ⟨by rw [HNA.out],by rw [HNA.out];exact HB9.out,HK9.out⟩
            · have hl:kAR c=false:=by simpa using hl
              simp only [hl] at hL;have HLt:=hJ hL;clear hL;by_cases h95:(c==95)=true
              · have HF:=hJ (HMn.out (by rw [HW.out,hl,h95,decide_eq_true hlt];rfl))
                clear HMn HMr HW
                go_wp2_with fail
                refine kAA (by kernel_rfl) (by kernel_rfl) ?_
                repeat (go_big_quiet_step (first | fail | exact Later.same (HLt.out _)))
                refine wpQuiet_nil ?_;rintro _ ⟨t9,rfl⟩;have HBq:=hJ (HB5.out.below t9.b HB5.out.lt);have HKq:=hJ (HK5.out.later t9.b);clear z0 z1 Z0 Z1 HB5 HK5;generalize t9.w=W6 at *
                go_wp2_with fail
                refine (kDJ s hs e p true _ HBq.out hbs).mono ?_;rintro e2 w9 ⟨rfl,hb9,hk9⟩;have HB9:=hJ hb9;have HK9:Hid (Kb p w w9):=hJ (HKq.out.trans hk9);have hz9:(s.extract e (runR true s e)).size≤281474976710656:=by rw [ByteArray.size_extract];omega
                have HC:=hJ (fun W=>kA7 (s.extract e (runR true s e)) W hz9);have HNA:Hid (R=(n,s.extract e (runR true s e),kAV (s.extract e (runR true s e)),runR true s e)):=hJ HF.out;clear hb9 hk9 hz9 HBq HKq HF;generalize runR true s e=e9 at *;generalize s.extract e e9=v9 at *
                go_wp2_with fail
                refine (HC.out _).mono ?_;rintro e _ ⟨rfl,rfl⟩
                go_wp2_with fail
                generalize kAV v9=o9 at *;refine bodyPost_ret (v:=.tuple #[.int .i64 n,.string v9,.bool o9]) (by simp [results,results120,go_sem]) rfl ?_;exact ⟨by rw [HNA.out],by rw [HNA.out];exact HB9.out,HK9.out⟩
              · have h95:(c==95)=false:=by simpa using h95
                have HM2:=hJ (HMr.out (by rw [HW.out,hl,h95,decide_eq_true hlt];rfl));clear HMn HMr HW
                go_wp2_with fail
                refine kAA (by kernel_rfl) (by kernel_rfl) ?_
                repeat (go_big_quiet_step (first | fail | exact Later.same (HLt.out _)))
                refine wpQuiet_nil ?_;rintro _ ⟨t9,rfl⟩;have HBw:=hJ (HB5.out.below t9.b HB5.out.lt);have HKw:=hJ (HK5.out.later t9.b);clear z0 z1 Z0 Z1 HB5 HK5;generalize t9.w=W6 at *;have z1:=HBw.out.cell 1 _ rfl
                go_wp2_with fail
                clear z1;refine (kBK s hs e p _ HBw.out hes).mono ?_;rintro e2 w7 ⟨rfl,hb7,hk7⟩;have HB7:=hJ hb7;have HK7:=hJ (HKw.out.trans hk7);clear hb7 hk7 HBw HKw;have hb0:blk s e≤s.size:=kCE hes;generalize blk s e=b0 at *
                go_wp2_with fail
                refine (kFH s hs b0 p 42 _ HB7.out hb0).mono ?_;rintro e2 w8 ⟨rfl,hb8,hk8⟩;have HB8:=hJ hb8;have HK8:=hJ (HK7.out.trans hk8);clear hb8 hk8 HB7 HK7;cases his:isAt s b0 42 with
                | false =>
                  have HF:Hid (R=(n,⟨#[]⟩,true,e)):=hJ (by rw [HM2.out,if_neg (by rw [his];decide)]);have y1:=HB8.out.cell 1 _ rfl;have f1:=HB8.out.fz 1
                  go_wp2_with fail
                  refine bodyPost_ret (v:=.tuple #[.int .i64 n,.string ⟨#[]⟩,.bool true]) (by simp [results,results120,go_sem]) rfl ?_;exact ⟨by rw [HF.out],by rw [HF.out];exact HB8.out.set 1 _,HK8.out.set _ _⟩
                | true =>
                  have hto:isTo s b0 42=b0+1:=by unfold isTo;rw [his];rfl
                  have hb1:b0+1≤s.size:=by
                   unfold isAt at his;rw [Bool.and_eq_true] at his;have:=of_decide_eq_true his.1;omega
                  rw [hto] at HB8;have HM3:=HM2.out;rw [if_pos his] at HM3;have HM4:=hJ HM3;clear HM2 HM3 his hto
                  go_wp2_with fail
                  refine (kBK s hs (b0+1) p _ HB8.out hb1).mono ?_;rintro e2 w9 ⟨rfl,hb9,hk9⟩;have HB5:=hJ hb9;have HK5:=hJ (HK8.out.trans hk9);clear hb9 hk9 HB8 HK8;have hbs:blk s (b0+1)≤s.size:=kCE hb1;generalize blk s (b0+1)=b2 at *;have HDa:Hid (digAt s b2=(decide (b2<s.size) && kAN (bt s b2))):=hJ rfl;have z0:=HB5.out.cell 0 _ rfl;have z1:=HB5.out.cell 1 _ rfl;have Z0:=Later.cell z0;have Z1:=Later.cell z1;by_cases hlt2:b2<s.size
                  · have qe2:decide ((b2:Int)<(s.size:Int))=true:=decide_eq_true (by omega)
                    have ge2:=kBH s b2 hlt2;have hD:=fun W=>kB9 (bt s b2) W
                    generalize bt s b2=c2 at *;by_cases hd2:kAN c2=true
                    · have HF:Hid (R=(0,⟨#[]⟩,false,b2)):=hJ (by rw [HM4.out,if_pos (by rw [HDa.out,hd2,decide_eq_true hlt2];rfl)])
                      simp only [hd2] at hD;have HD:=hJ hD;clear hD HM4 HDa
                      go_wp2_with fail
                      refine kAA (by kernel_rfl) (by kernel_rfl) ?_
                      repeat (go_big_quiet_step (first | fail | exact Later.same (HD.out _)))
                      refine wpQuiet_nil ?_;rintro _ ⟨t9,rfl⟩;have HBq:=hJ (HB5.out.below t9.b HB5.out.lt);have HKq:=hJ (HK5.out.later t9.b);clear z0 z1 Z0 Z1
                      go_wp2_with fail
                      refine bodyPost_ret (v:=.tuple #[.int .i64 0,.string ⟨#[]⟩,.bool false]) (by simp [results,results120,go_sem]) rfl ?_;exact ⟨by rw [HF.out],by rw [HF.out];exact HBq.out,HKq.out⟩
                    · have hd2:kAN c2=false:=by simpa using hd2
                      have HF:Hid (R=kFS n s b2):=hJ (by rw [HM4.out,if_neg (by rw [HDa.out,hd2,decide_eq_true hlt2];decide)]);simp only [hd2] at hD;have HD:=hJ hD;clear hD HM4 HDa
                      go_wp2_with fail
                      refine kAA (by kernel_rfl) (by kernel_rfl) ?_
                      repeat (go_big_quiet_step (first | fail | exact Later.same (HD.out _)))
                      refine wpQuiet_nil ?_;rintro _ ⟨t9,rfl⟩;have HBq:=hJ (HB5.out.below t9.b HB5.out.lt);have HKq:=hJ (HK5.out.later t9.b);clear z0 z1 Z0 Z1 HB5 HK5;generalize t9.w=W9 at *
                      go_wp2_with fail
                      refine (kDJ s hs b2 p true _ HBq.out hbs).mono ?_;rintro e2 w9 ⟨rfl,hb9,hk9⟩;have HB9:=hJ hb9;have HK9:Hid (Kb p w w9):=hJ (HKq.out.trans hk9);have hz9:(s.extract b2 (runR true s b2)).size≤281474976710656:=by rw [ByteArray.size_extract];omega
                      have HC:=hJ (fun W=>kA7 (s.extract b2 (runR true s b2)) W hz9);have HNA:Hid (R=(n,s.extract b2 (runR true s b2),kAV (s.extract b2 (runR true s b2)),runR true s b2)):=hJ HF.out;clear hb9 hk9 hz9 HBq HKq HF;generalize runR true s b2=e9 at *;generalize s.extract b2 e9=v9 at *
                      go_wp2_with fail
                      refine (HC.out _).mono ?_;rintro e _ ⟨rfl,rfl⟩
                      go_wp2_with fail
                      generalize kAV v9=o9 at *;refine bodyPost_ret (v:=.tuple #[.int .i64 n,.string v9,.bool o9]) (by simp [results,results120,go_sem]) rfl ?_;exact ⟨by rw [HNA.out],by rw [HNA.out];exact HB9.out,HK9.out⟩
                  · have qe2:decide ((b2:Int)<(s.size:Int))=false:=decide_eq_false (by omega)
                    have HF:Hid (R=kFS n s b2):=hJ (by rw [HM4.out,if_neg (by rw [HDa.out,decide_eq_false hlt2,Bool.false_and];decide)]);clear HM4 HDa
                    go_wp2_with fail
                    refine kAA (by kernel_rfl) (by kernel_rfl) ?_
                    repeat (go_big_quiet_step (fail))
                    refine wpQuiet_nil ?_;rintro _ ⟨t9,rfl⟩;have HBq:=hJ (HB5.out.below t9.b HB5.out.lt);have HKq:=hJ (HK5.out.later t9.b);clear z0 z1 Z0 Z1 HB5 HK5;generalize t9.w=W9 at *
                    go_wp2_with fail
                    refine (kDJ s hs b2 p true _ HBq.out hbs).mono ?_;rintro e2 w9 ⟨rfl,hb9,hk9⟩;have HB9:=hJ hb9;have HK9:Hid (Kb p w w9):=hJ (HKq.out.trans hk9);have hz9:(s.extract b2 (runR true s b2)).size≤281474976710656:=by rw [ByteArray.size_extract];omega
                    have HC:=hJ (fun W=>kA7 (s.extract b2 (runR true s b2)) W hz9);have HNA:Hid (R=(n,s.extract b2 (runR true s b2),kAV (s.extract b2 (runR true s b2)),runR true s b2)):=hJ HF.out;clear hb9 hk9 hz9 HBq HKq HF;generalize runR true s b2=e9 at *;generalize s.extract b2 e9=v9 at *
                    go_wp2_with fail
                    refine (HC.out _).mono ?_;rintro e _ ⟨rfl,rfl⟩
                    go_wp2_with fail
                    generalize kAV v9=o9 at *;refine bodyPost_ret (v:=.tuple #[.int .i64 n,.string v9,.bool o9]) (by simp [results,results120,go_sem]) rfl ?_;exact ⟨by rw [HNA.out],by rw [HNA.out];exact HB9.out,HK9.out⟩
          · have qe:decide ((e:Int)<(s.size:Int))=false:=decide_eq_false (by omega)
            have HM2:=hJ (HMr.out (by rw [HW.out,decide_eq_false hlt];rfl));clear HMn HMr HW
            go_wp2_with fail
            refine kAA (by kernel_rfl) (by kernel_rfl) ?_
            repeat (go_big_quiet_step (fail))
            refine wpQuiet_nil ?_;rintro _ ⟨t9,rfl⟩;have HBw:=hJ (HB5.out.below t9.b HB5.out.lt);have HKw:=hJ (HK5.out.later t9.b);clear z0 z1 Z0 Z1 HB5 HK5;generalize t9.w=W6 at *;have z1:=HBw.out.cell 1 _ rfl
            go_wp2_with fail
            clear z1;refine (kBK s hs e p _ HBw.out hes).mono ?_;rintro e2 w7 ⟨rfl,hb7,hk7⟩;have HB7:=hJ hb7;have HK7:=hJ (HKw.out.trans hk7);clear hb7 hk7 HBw HKw;have hb0:blk s e≤s.size:=kCE hes;generalize blk s e=b0 at *
            go_wp2_with fail
            refine (kFH s hs b0 p 42 _ HB7.out hb0).mono ?_;rintro e2 w8 ⟨rfl,hb8,hk8⟩;have HB8:=hJ hb8;have HK8:=hJ (HK7.out.trans hk8);clear hb8 hk8 HB7 HK7;cases his:isAt s b0 42 with
            | false =>
              have HF:Hid (R=(n,⟨#[]⟩,true,e)):=hJ (by rw [HM2.out,if_neg (by rw [his];decide)]);have y1:=HB8.out.cell 1 _ rfl;have f1:=HB8.out.fz 1
              go_wp2_with fail
              refine bodyPost_ret (v:=.tuple #[.int .i64 n,.string ⟨#[]⟩,.bool true]) (by simp [results,results120,go_sem]) rfl ?_;exact ⟨by rw [HF.out],by rw [HF.out];exact HB8.out.set 1 _,HK8.out.set _ _⟩
            | true =>
              have hto:isTo s b0 42=b0+1:=by unfold isTo;rw [his];rfl
              have hb1:b0+1≤s.size:=by
               unfold isAt at his;rw [Bool.and_eq_true] at his;have:=of_decide_eq_true his.1;omega
              rw [hto] at HB8;have HM3:=HM2.out;rw [if_pos his] at HM3;have HM4:=hJ HM3;clear HM2 HM3 his hto
              go_wp2_with fail
              refine (kBK s hs (b0+1) p _ HB8.out hb1).mono ?_;rintro e2 w9 ⟨rfl,hb9,hk9⟩;have HB5:=hJ hb9;have HK5:=hJ (HK8.out.trans hk9);clear hb9 hk9 HB8 HK8;have hbs:blk s (b0+1)≤s.size:=kCE hb1;generalize blk s (b0+1)=b2 at *;have HDa:Hid (digAt s b2=(decide (b2<s.size) && kAN (bt s b2))):=hJ rfl;have z0:=HB5.out.cell 0 _ rfl;have z1:=HB5.out.cell 1 _ rfl;have Z0:=Later.cell z0;have Z1:=Later.cell z1;by_cases hlt2:b2<s.size
              · have qe2:decide ((b2:Int)<(s.size:Int))=true:=decide_eq_true (by omega)
                have ge2:=kBH s b2 hlt2;have hD:=fun W=>kB9 (bt s b2) W
                generalize bt s b2=c2 at *;by_cases hd2:kAN c2=true
                · have HF:Hid (R=(0,⟨#[]⟩,false,b2)):=hJ (by rw [HM4.out,if_pos (by rw [HDa.out,hd2,decide_eq_true hlt2];rfl)])
                  simp only [hd2] at hD;have HD:=hJ hD;clear hD HM4 HDa
                  go_wp2_with fail
                  refine kAA (by kernel_rfl) (by kernel_rfl) ?_
                  repeat (go_big_quiet_step (first | fail | exact Later.same (HD.out _)))
                  refine wpQuiet_nil ?_;rintro _ ⟨t9,rfl⟩;have HBq:=hJ (HB5.out.below t9.b HB5.out.lt);have HKq:=hJ (HK5.out.later t9.b);clear z0 z1 Z0 Z1
                  go_wp2_with fail
                  refine bodyPost_ret (v:=.tuple #[.int .i64 0,.string ⟨#[]⟩,.bool false]) (by simp [results,results120,go_sem]) rfl ?_;exact ⟨by rw [HF.out],by rw [HF.out];exact HBq.out,HKq.out⟩
                · have hd2:kAN c2=false:=by simpa using hd2
                  have HF:Hid (R=kFS n s b2):=hJ (by rw [HM4.out,if_neg (by rw [HDa.out,hd2,decide_eq_true hlt2];decide)]);simp only [hd2] at hD;have HD:=hJ hD;clear hD HM4 HDa
                  go_wp2_with fail
                  refine kAA (by kernel_rfl) (by kernel_rfl) ?_
                  repeat (go_big_quiet_step (first | fail | exact Later.same (HD.out _)))
                  refine wpQuiet_nil ?_;rintro _ ⟨t9,rfl⟩;have HBq:=hJ (HB5.out.below t9.b HB5.out.lt);have HKq:=hJ (HK5.out.later t9.b);clear z0 z1 Z0 Z1 HB5 HK5;generalize t9.w=W9 at *
                  go_wp2_with fail
                  refine (kDJ s hs b2 p true _ HBq.out hbs).mono ?_;rintro e2 w9 ⟨rfl,hb9,hk9⟩;have HB9:=hJ hb9;have HK9:Hid (Kb p w w9):=hJ (HKq.out.trans hk9);have hz9:(s.extract b2 (runR true s b2)).size≤281474976710656:=by rw [ByteArray.size_extract];omega
                  have HC:=hJ (fun W=>kA7 (s.extract b2 (runR true s b2)) W hz9);have HNA:Hid (R=(n,s.extract b2 (runR true s b2),kAV (s.extract b2 (runR true s b2)),runR true s b2)):=hJ HF.out;clear hb9 hk9 hz9 HBq HKq HF;generalize runR true s b2=e9 at *;generalize s.extract b2 e9=v9 at *
                  go_wp2_with fail
                  refine (HC.out _).mono ?_;rintro e _ ⟨rfl,rfl⟩
                  go_wp2_with fail
                  generalize kAV v9=o9 at *;refine bodyPost_ret (v:=.tuple #[.int .i64 n,.string v9,.bool o9]) (by simp [results,results120,go_sem]) rfl ?_;exact ⟨by rw [HNA.out],by rw [HNA.out];exact HB9.out,HK9.out⟩
              · have qe2:decide ((b2:Int)<(s.size:Int))=false:=decide_eq_false (by omega)
                have HF:Hid (R=kFS n s b2):=hJ (by rw [HM4.out,if_neg (by rw [HDa.out,decide_eq_false hlt2,Bool.false_and];decide)]);clear HM4 HDa
                go_wp2_with fail
                refine kAA (by kernel_rfl) (by kernel_rfl) ?_
                repeat (go_big_quiet_step (fail))
                refine wpQuiet_nil ?_;rintro _ ⟨t9,rfl⟩;have HBq:=hJ (HB5.out.below t9.b HB5.out.lt);have HKq:=hJ (HK5.out.later t9.b);clear z0 z1 Z0 Z1 HB5 HK5;generalize t9.w=W9 at *
                go_wp2_with fail
                refine (kDJ s hs b2 p true _ HBq.out hbs).mono ?_;rintro e2 w9 ⟨rfl,hb9,hk9⟩;have HB9:=hJ hb9;have HK9:Hid (Kb p w w9):=hJ (HKq.out.trans hk9);have hz9:(s.extract b2 (runR true s b2)).size≤281474976710656:=by rw [ByteArray.size_extract];omega
                have HC:=hJ (fun W=>kA7 (s.extract b2 (runR true s b2)) W hz9);have HNA:Hid (R=(n,s.extract b2 (runR true s b2),kAV (s.extract b2 (runR true s b2)),runR true s b2)):=hJ HF.out;clear hb9 hk9 hz9 HBq HKq HF;generalize runR true s b2=e9 at *;generalize s.extract b2 e9=v9 at *
                go_wp2_with fail
                refine (HC.out _).mono ?_;rintro e _ ⟨rfl,rfl⟩
                go_wp2_with fail
                generalize kAV v9=o9 at *;refine bodyPost_ret (v:=.tuple #[.int .i64 n,.string v9,.bool o9]) (by simp [results,results120,go_sem]) rfl ?_;exact ⟨by rw [HNA.out],by rw [HNA.out];exact HB9.out,HK9.out⟩
theorem kGD {v:Str} (h:kAV v=true):v.toList.isEmpty=false:=by
 cases he:v.toList.isEmpty with
 | false=>rfl
 | true =>
   have h0:=kGZ he;rw [kJZ v (.inl h0)] at h;cases h
def kEX (out:Lin) (n:Int) (v:Str):Lin:=if v.toList.isEmpty then ⟨out.const+n,out.terms⟩ else ⟨out.const,plus out.terms v n⟩
def kJ0 (it:Nat→Int × Str × Bool × Nat) (s:Str):Nat→Nat→Int→Lin→Option Lin
 | 0,_,_,_=>none
 | f+1,k,sg,out =>
   if (it (blk s k)).2.2.1 then
    if blk s (it (blk s k)).2.2.2=s.size then some (kEX out (sg * (it (blk s k)).1) (it (blk s k)).2.1)
    else if isAt s (blk s (it (blk s k)).2.2.2) 45 then kJ0 it s f (blk s (it (blk s k)).2.2.2+1) (-1) (kEX out (sg * (it (blk s k)).1) (it (blk s k)).2.1)
    else if isAt s (blk s (it (blk s k)).2.2.2) 43 then kJ0 it s f (blk s (it (blk s k)).2.2.2+1) 1 (kEX out (sg * (it (blk s k)).1) (it (blk s k)).2.1)
    else none
   else none
def kJQ (s:Str):Nat:=if isAt s (blk s 0) 45 then blk s 0+1 else isTo s (blk s 0) 43
def kJP (s:Str):Int:=if isAt s (blk s 0) 45 then -1 else 1
def kBA (it:Nat→Int × Str × Bool × Nat) (s:Str):Option Lin:=kJ0 it s (s.size+1) (kJQ s) (kJP s) ⟨0,[]⟩
def kER (o:Option Lin):Lin:=match o with
 | none=>⟨0,[]⟩
 | some x=>limL x
def kES (o:Option Lin):Int:=match o with
 | none=>6
 | some x=>limE x
structure ItemOk (s:Str) (k:Nat) (r:Int × Str × Bool × Nat):Prop where
 lo:0≤r.1
 hi:r.1<10000000
 name:r.2.1.toList.isEmpty=false→kAV r.2.1=true
 le:r.2.2.2≤s.size
 ge:k≤r.2.2.2
theorem wordR_ok {s:Str} {n:Int} {k k0:Nat} (hkk:k0≤k) (hk:k≤s.size) (h0:0≤n) (h1:n<10000000) (h:(kFS n s k).2.2.1=true):ItemOk s k0 (kFS n s k):=⟨h0,h1,fun _=>h,kCE hk,Nat.le_trans hkk (kB1 _ _ _)⟩
theorem kFP {s:Str} {k:Nat} (h:k≤s.size):blk s k≤s.size:=kCE h
theorem kCQ {s:Str} {k:Nat} {c:Int} (h:isAt s k c=true):k<s.size:=by
 unfold isAt at h;rw [Bool.and_eq_true] at h;exact of_decide_eq_true h.1
theorem itemR_ok {s:Str} {k:Nat} (hk:k≤s.size) (h:(kCD s k).2.2.1=true):ItemOk s k (kCD s k):=by
 have hke:k≤runR false s k:=kB1 _ _ _;have hes:runR false s k≤s.size:=kCE hk
 have hdg:∀ i,i<(s.extract k (runR false s k)).size→kAN (bt (s.extract k (runR false s k)) i)=true:=fun i hi=>by
  rw [kBM s hes] at hi;rw [kIL s hes (by omega)];have:=kJS (P:=runP false s k) (n:=s.size) (s.size - k) k (k+i) (Nat.le_refl _) (by omega) (by show k+i<runR false s k;omega);unfold runP at this
  simpa using this
 unfold kCD at h ⊢;by_cases hl:longB (s.extract k (runR false s k))=true
 · rw [if_pos hl] at h;cases h
 · have hl7:(s.extract k (runR false s k)).size≤7:=by
    rcases Nat.lt_or_ge 7 (s.extract k (runR false s k)).size with q | q
    · exfalso;apply hl;unfold longB;rw [decide_eq_true q];rfl
    · exact q
   rw [if_neg hl] at h ⊢
   split at h
   · rename_i he
     rw [if_pos he];exact wordR_ok hke hes (by decide) (by decide) h
   · rename_i he
     rw [if_neg he];have hb:=decK_lt hdg hl7 (Nat.le_refl _)
     change 0≤decV _∧decV _<_ at hb
     unfold itemN at h ⊢
     split at h
     · rename_i hw
       rw [if_pos hw];exact wordR_ok hke hes hb.1 hb.2 h
     · rename_i hw
       rw [if_neg hw]
       split at h
       · rename_i ha
         rw [if_pos ha];have h2:=kFP (kCQ ha)
         split at h
         · cases h
         · rename_i hd
           rw [if_neg hd];exact wordR_ok (Nat.le_trans hke (Nat.le_trans (kB1 _ _ _) (Nat.le_trans (Nat.le_succ _) (kB1 _ _ _)))) h2 hb.1 hb.2 h
       · rename_i ha
         rw [if_neg ha];exact ⟨hb.1,hb.2,fun q=>absurd q (by show ¬ (⟨#[]⟩:Str).toList.isEmpty=false;rw [ByteArray.toList_eq];decide),hes,hke⟩
structure AccOk (m:Nat) (x:Lin):Prop where
 srt:Srt x.terms
 nz:Nz x.terms
 len:x.terms.length≤m
 bd:Bd (10000000 * (m:Int)) x.terms
 const: -(10000000 * (m:Int))≤x.const∧x.const≤10000000 * (m:Int)
 names:Named x.terms
theorem AccOk.zero (m:Nat):AccOk m ⟨0,[]⟩:=⟨List.Pairwise.nil,fun t h=>(by cases h),Nat.zero_le _,fun t h=>(by cases h),⟨by show -(10000000 * (m:Int))≤0;omega,by show (0:Int)≤_;omega⟩,fun t h=>(by cases h)⟩
theorem Bd.le {n m:Int} {l:List Coef} (h:Bd n l) (hnm:n≤m):Bd m l:=fun t ht=>by have:=h t ht;omega
theorem AccOk.mono {m m':Nat} {x:Lin} (h:AccOk m x) (hm:m≤m'):AccOk m' x:=⟨h.srt,h.nz,by have:=h.len;omega,h.bd.le (by omega),by have:=h.const;omega,h.names⟩
theorem AccOk.next {s:Str} {m:Nat} {x:Lin} (h:AccOk m x) {r:Int × Str × Bool × Nat} {k:Nat} (hr:ItemOk s k r) {sg:Int} (hsg:sg=1∨sg= -1):AccOk (m+1) (kEX x (sg * r.1) r.2.1):=by
 have h0:=hr.lo;have h1:=hr.hi;have hb: -10000000≤sg * r.1∧sg * r.1≤10000000:=by rcases hsg with rfl | rfl <;> omega
 unfold kEX
 split
 · exact ⟨h.srt,h.nz,by have:=h.len;show x.terms.length≤_;omega,h.bd.le (by omega),by have:=h.const;show _≤x.const+_∧x.const+_≤_;omega,h.names⟩
 · rename_i he
   have hb2:=plus_bd h.srt r.2.1 (sg * r.1) h.bd hb (by omega) (by decide);exact ⟨kJW h.srt _ _,plus_nz _ _ _,by have:=h.len;have:=plus_len h.srt r.2.1 (sg * r.1);show (plus _ _ _).length≤_;omega,hb2.le (by omega),by have:=h.const;show _≤x.const∧x.const≤_;omega,plus_names h.srt h.names (hr.name (by simpa using he)) _⟩
theorem kJL (s:Str) (k:Nat):(s.extract k s.size).data.toList=s.data.toList.drop k:=by
 rw [ByteArray.data_extract,Array.toList_extract,List.extract_eq_take_drop,List.take_of_length_le (by rw [List.length_drop,Array.length_toList];first | done | exact Nat.le_refl _)]
theorem mk_eq {l:List UInt8} {t:Str} (h:l=t.data.toList):(⟨l.toArray⟩:Str)=t:=by
 rw [h]
theorem bt_list (s:Str) {k:Nat} (h:k<s.size):∃ c r,s.data.toList.drop k=c :: r∧bt s k=(c.toNat:Int)∧r=s.data.toList.drop (k+1):=by
 obtain ⟨c,h1,h2⟩:=at_bt s k h;have hl:k<s.data.toList.length:=by rw [Array.length_toList];exact h
 refine ⟨c,s.data.toList.drop (k+1),?_,h2,rfl⟩;rw [List.drop_eq_getElem_cons hl];rw [List.getElem?_eq_getElem hl] at h1
 injection h1 with h1
 rw [h1]
theorem trim_sub (s:Str):∀ (d k:Nat),s.size - k≤d→Lib.trimLeftB (s.data.toList.drop k) 32=s.data.toList.drop (blk s k)
 | 0,k,hd=>by
   have h1:blk s k=k:=kBO (by omega);rw [h1,List.drop_of_length_le (by rw [Array.length_toList];show s.size≤k;omega)];rfl
 | d+1,k,hd=>by
   rcases Nat.lt_or_ge k s.size with hk | hk
   · obtain ⟨c,r,h1,h2,h3⟩:=bt_list s hk
     rw [h1];unfold Lib.trimLeftB;rw [List.dropWhile_cons];by_cases hc:c=32
     · rw [if_pos (by rw [hc];decide),h3]
       have h4:blk s k=blk s (k+1):=kDT hk (by rw [h2,hc];decide);rw [h4];exact trim_sub s d (k+1) (by omega)
     · rw [if_neg (by simpa using hc)]
       have h4:blk s k=k:=kB0 (by
        rw [h2,beq_eq_false_iff_ne];intro e;apply hc;have:c.toNat=32:=by omega
        exact UInt8.toNat_inj.1 this)
       rw [h4,h1]
   · have h1:blk s k=k:=kBO hk
     rw [h1,List.drop_of_length_le (by rw [Array.length_toList];exact hk)];rfl
def kEY (s:Str) (k p:Nat) (num:Int) (bm:Nat) (w:World):Prop:=Bx w p 145 [.string (s.extract k s.size),.int .i64 num,.map (some bm)]
def kB5 (c:Int):Bool:=kAR c || (c==95 || kAN c)
theorem kFJ (c:Int) (w:World):Calls Tryz.prog 167 #[.int .u8 c] w fun e w'=>e= .returned (.bool (kAN c))∧w=w':=by
 unfold kAN;by_cases h0:48≤c <;> by_cases h1:c≤57
 all_goals
  go_enter func167,ntmps167
  go_wp2_with fail
  go_ret;exact ⟨by simp [h0,h1],rfl⟩
theorem kJ3 (c:Int) (w:World):Calls Tryz.prog 172 #[.int .u8 c] w fun e w'=>e= .returned (.bool (kB5 c))∧w=w':=by
 have HP:Hid (kB5 c=(decide (97≤c∧c≤122) || (c==95 || kAN c))):=hJ rfl;by_cases h0:97≤c
 · by_cases h1:c≤122
   · have HF:Hid (kB5 c=true):=hJ (by rw [HP.out,decide_eq_true ⟨h0,h1⟩];rfl)
     go_enter func172,ntmps172
     go_wp2_with fail
     go_ret;exact ⟨by rw [HF.out];rfl,rfl⟩
   · by_cases h95:(c==95)=true
     · have:=beq_iff_eq.1 h95;omega
     · have h95:(c==95)=false:=by simpa using h95
       have HF:Hid (kB5 c=kAN c):=hJ (by rw [HP.out,decide_eq_false (by omega),h95];rfl);go_enter func172,ntmps172
       go_wp2_with fail
       refine (kFJ _ _).mono ?_;rintro e _ ⟨rfl,rfl⟩
       go_wp2_with fail
       go_ret;exact ⟨by rw [HF.out];rfl,rfl⟩
 · by_cases h95:(c==95)=true
   · have HF:Hid (kB5 c=true):=hJ (by rw [HP.out,h95,Bool.true_or,Bool.or_true])
     go_enter func172,ntmps172
     go_wp2_with fail
     go_ret;exact ⟨by rw [HF.out];rfl,rfl⟩
   · have h95:(c==95)=false:=by simpa using h95
     have HF:Hid (kB5 c=kAN c):=hJ (by rw [HP.out,decide_eq_false (by omega),h95];rfl);go_enter func172,ntmps172
     go_wp2_with fail
     refine (kFJ _ _).mono ?_;rintro e _ ⟨rfl,rfl⟩
     go_wp2_with fail
     go_ret;exact ⟨by rw [HF.out];rfl,rfl⟩
theorem kH4 (s:Str) (k p:Nat) (num:Int) (bm:Nat) (w:World) (hb:kEY s k p num bm w) :
 Calls Tryz.prog 109 #[.pointer (some ⟨p,0,none⟩)] w fun e w'=>e= .returned (.tuple #[])∧kEY s (blk s k) p num bm w'∧Kb p w w':=by
 have HB:=hJ hb;have z0:=hb.cell 0 _ rfl;have f0:=hb.fz 0;have HT:Hid ((⟨(Lib.trimLeftB (s.extract k s.size).data.toList 32).toArray⟩:Str)=s.extract (blk s k) s.size):=hJ (mk_eq (by rw [kJL,kJL];exact trim_sub s _ k (Nat.le_refl _)));have HC:=hJ (Tryz.strings_TrimLeft_one (s.extract k s.size) 32 (by decide) w);clear hb;generalize (⟨(Lib.trimLeftB (s.extract k s.size).data.toList 32).toArray⟩:Str)=u at *;generalize hr:s.extract k s.size=r at *;go_enter func109,ntmps109
 go_wp2_with fail
 refine HC.out.mono ?_;rintro e w1 ⟨rfl,rfl⟩
 go_wp2_with fail
 go_end0;exact ⟨rfl,by unfold kEY at *;rw [← HT.out];exact HB.out.set 0 _,(Kb.refl p _).set _ _⟩
theorem rdr_take (g:FuncId) (hen:Ent1 g) (P:Int→Bool) (hg:∀ (c:Int) (W:World),Calls Tryz.prog g #[.int .u8 c] W fun e w'=>e= .returned (.bool (P c))∧W=w') (s:Str) (hs:s.size≤1000000) (k p:Nat) (num:Int) (bm:Nat) (w:World) (hb:kEY s k p num bm w) (hk:k≤s.size) :
 Calls Tryz.prog 213 #[.pointer (some ⟨p,0,none⟩),.func (.func g) #[] #[]] w fun e w'=>e= .returned (.string (s.extract k (kBW (fun i=>P (bt s i)) s.size k)))∧kEY s (kBW (fun i=>P (bt s i)) s.size k) p num bm w'∧Kb p w w':=by
 have HB:=hJ hb;have HG:=hJ hg;have z0:=hb.cell 0 _ rfl;have f0:=hb.fz 0;have hsz:(s.extract k s.size).size=s.size - k:=kBM s (Nat.le_refl _);have HY:Hid (∀ j,k+j<s.size→P (bt s (k+j))=true→kBW (fun i=>P (bt s i)) s.size (k+j)=kBW (fun i=>P (bt s i)) s.size (k+(j+1))):=hJ (fun j hj h=>kDT hj h);have HNo:Hid (∀ j,P (bt s (k+j))=false→kBW (fun i=>P (bt s i)) s.size (k+j)=k+j):=hJ (fun j h=>kB0 h);have HSt:Hid (∀ j,s.size≤k+j→kBW (fun i=>P (bt s i)) s.size (k+j)=k+j):=hJ (fun j h=>kBO h);have HBt:Hid (∀ j,j<s.size - k→bt (s.extract k s.size) j=bt s (k+j)):=hJ (fun j hj=>kIL s (Nat.le_refl _) (by omega));have HE1:Hid (∀ j,j≤s.size - k→(s.extract k s.size).extract 0 j=s.extract k (k+j)):=hJ (fun j hj=>sub_sub s (by omega));have HE2:Hid (∀ j,j≤s.size - k→(s.extract k s.size).extract j (s.size - k)=s.extract (k+j) s.size):=hJ (fun j hj=>by rw [sub_sub s (by omega),show k+(s.size - k)=s.size by omega]);have HR:Hid (kBW (fun i=>P (bt s i)) s.size (k+0)=kBW (fun i=>P (bt s i)) s.size k):=hJ rfl;clear hb hg;generalize hrt:kBW (fun i=>P (bt s i)) s.size=rt at *;have HU:Hid (kEY s k p num bm w=Bx w p 145 [.string (s.extract k s.size),.int .i64 num,.map (some bm)]):=hJ rfl;generalize s.extract k s.size=r at *;clear hrt;go_enter func213,ntmps213
 go_wp2_with fail
 go_loopw [5] (fun i wr=>∃ j:Nat,j≤s.size - k∧i= .int .i64 j∧Hid (rt (k+j)=rt k)∧w=wr) (fun i _=>s.size - k - (intOf i).toNat)
 case atStart=>exact ⟨0,Nat.zero_le _,rfl,HR,rfl⟩
 case round =>
  obtain ⟨j,hj,rfl,HE,rfl⟩:=hrel;by_cases hlt:j<s.size - k
  · have q1:decide ((j:Int)<(r.size:Int))=true:=decide_eq_true (by omega)
    have g0:=kBH r j (by omega);have hbt:=HBt.out j hlt;have HYj:=hJ (HY.out j (by omega));have HNj:=hJ (HNo.out j);rw [hbt] at g0;generalize bt s (k+j)=c at *;have hC:=fun W=>HG.out c W
    by_cases hc:P c=true
    · have HE3:=hJ ((HYj.out hc).symm.trans HE.out)
      simp only [hc] at hC;have HC:=hJ hC;clear hC hbt
      go_wp2_with (go_at_fn g;refine (HC.out _).mono ?_;rintro e w' ⟨rfl,rfl⟩)
      go_roundw
      case rel=>exact ⟨j+1,by omega,by go_num,HE3,trivial⟩
      case measure=>simp [intOf];omega
    · have hc:P c=false:=by simpa using hc
      have HF:=hJ ((HNj.out hc).symm.trans HE.out);simp only [hc] at hC;have HC:=hJ hC;clear hC hbt
      go_wp2_with (go_at_fn g;refine (HC.out _).mono ?_;rintro e w' ⟨rfl,rfl⟩)
      have HX1:=hJ (HE1.out j hj);have HX2:=hJ (HE2.out j hj);have hjr:(j:Int)≤(r.size:Int):=by omega
      clear HY HNo HSt HBt HE1 HE2 HR HG
      go_wp2_with fail
      go_ret;refine ⟨by rw [← HF.out,← HX1.out];rfl,?_,(Kb.refl p _).set _ _⟩;have h1:=HB.out;unfold kEY at *;rw [← HF.out,← HX2.out];exact Bx.set (cs:=[.string r,.int .i64 num,.map (some bm)]) (by rw [← HU.out];exact h1) 0 _
  · have q1:decide ((j:Int)<(r.size:Int))=false:=decide_eq_false (by omega)
    have HF:=hJ ((HSt.out j (by omega)).symm.trans HE.out);have HX1:=hJ (HE1.out j hj);have HX2:=hJ (HE2.out j hj);have hjr:(j:Int)≤(r.size:Int):=by omega
    clear HY HNo HSt HBt HE1 HE2 HR HG
    go_wp2_with fail
    go_ret;refine ⟨by rw [← HF.out,← HX1.out];rfl,?_,(Kb.refl p _).set _ _⟩;have h1:=HB.out;unfold kEY at *;rw [← HF.out,← HX2.out];exact Bx.set (cs:=[.string r,.int .i64 num,.map (some bm)]) (by rw [← HU.out];exact h1) 0 _
def kGP (s:Str) (k:Nat):Nat:=if isAt s k 43 then k+1 else isTo s k 45
def kI2 (s:Str) (k:Nat):Int:=if isAt s k 43 then 1 else if isAt s k 45 then -1 else 1
def signB (s:Str) (k:Nat):Bool:=isAt s k 43 || isAt s k 45
theorem pre_one (s:Str) (k:Nat) (c:UInt8):Lib.hasPrefix (s.extract k s.size).data.toList [c]=isAt s k (c.toNat:Int):=by
 rw [kJL];unfold isAt Lib.hasPrefix;rcases Nat.lt_or_ge k s.size with hk | hk
 · obtain ⟨d,r,h1,h2,_⟩:=bt_list s hk
   rw [h1,h2,decide_eq_true hk,Bool.true_and,List.isPrefixOf_cons_cons];simp only [List.isPrefixOf_nil_left,Bool.and_true];rw [Bool.eq_iff_iff,beq_iff_eq,beq_iff_eq]
   constructor
   · intro e;rw [e]
   · intro e;exact UInt8.toNat_inj.1 (by omega)
 · rw [List.drop_of_length_le (by rw [Array.length_toList];exact hk),decide_eq_false (by omega)];rfl
theorem rdr_sign (s:Str) (hs:s.size≤1000000) (k p:Nat) (num:Int) (bm:Nat) (w:World) (hb:kEY s k p num bm w) (hk:k≤s.size) :
 Calls Tryz.prog 110 #[.pointer (some ⟨p,0,none⟩)] w fun e w'=>e= .returned (.tuple #[.int .i64 (kI2 s k),.bool (signB s k)])∧kEY s (kGP s k) p num bm w'∧Kb p w w':=by
 have HB:=hJ hb;have z0:=hb.cell 0 _ rfl;have f0:=hb.fz 0;have hsz:(s.extract k s.size).size=s.size - k:=kBM s (Nat.le_refl _);have HP:=hJ (Tryz.strings_HasPrefix (s.extract k s.size) ⟨#[43]⟩ w);have HM:=hJ (Tryz.strings_HasPrefix (s.extract k s.size) ⟨#[45]⟩ w);have HQ:=hJ (pre_one s k 43);have HN:=hJ (pre_one s k 45);have HE2:Hid (k<s.size→(s.extract k s.size).extract 1 (s.size - k)=s.extract (k+1) s.size):=hJ (fun hj=>by rw [sub_sub s (by omega),show k+(s.size - k)=s.size by omega]);have HU:Hid (kEY s k p num bm w=Bx w p 145 [.string (s.extract k s.size),.int .i64 num,.map (some bm)]):=hJ rfl;clear hb;have hP2:=HP.out;have hM2:=HM.out
 change Calls _ _ _ _ fun e w'=>e= .returned (.bool (Lib.hasPrefix _ [43]))∧_ at hP2
 change Calls _ _ _ _ fun e w'=>e= .returned (.bool (Lib.hasPrefix _ [45]))∧_ at hM2
 rw [HQ.out] at hP2;rw [HN.out] at hM2;have HP:=hJ hP2;have HM:=hJ hM2;clear HQ HN hP2 hM2;generalize s.extract k s.size=r at *;have hi0:∀ W,(Instr.index 195 (.agg #[.string ⟨#[43]⟩,.string ⟨#[45]⟩]) (.int .i64 0)).run Tryz.prog W= .ok (.string ⟨#[43]⟩) W:=fun W=>by kernel_rfl
 have hi1:∀ W,(Instr.index 195 (.agg #[.string ⟨#[43]⟩,.string ⟨#[45]⟩]) (.int .i64 1)).run Tryz.prog W= .ok (.string ⟨#[45]⟩) W:=fun W=>by kernel_rfl
 go_enter func110,ntmps110;cases hp:isAt s k 43 with
 | true =>
   rw [show isAt s k ((43:UInt8).toNat:Int)=true from hp] at HP
   go_wp2_with fail
   go_loopw [7] (fun i wr=>i= .int .i64 0∧w=wr) (fun _ _=>0)
   case atStart=>exact ⟨rfl,rfl⟩
   case round =>
    obtain ⟨rfl,rfl⟩:=hrel
    go_wp2_with fail
    refine HP.out.mono ?_;rintro e w1 ⟨rfl,rfl⟩;have hlt:k<s.size:=kCQ hp;have hjr:(1:Int)≤(r.size:Int):=by omega
    have HX2:=hJ (HE2.out hlt)
    go_wp2_with fail
    refine bodyPost_ret (v:=.tuple #[.int .i64 1,.bool true]) (by simp [results,results110,go_sem]) rfl ?_;refine ⟨?_,?_,(Kb.refl p _).set _ _⟩
    · unfold kI2 signB
      simp [hp]
    · have h1:=HB.out
      have e1:kGP s k=k+1:=by unfold kGP isTo;simp [hp]
      rw [e1];unfold kEY at *;rw [← HX2.out];exact Bx.set (cs:=[.string r,.int .i64 num,.map (some bm)]) (by rw [← HU.out];exact h1) 0 _
 | false =>
   rw [show isAt s k ((43:UInt8).toNat:Int)=false from hp] at HP;cases hm:isAt s k 45 with
   | true =>
     rw [show isAt s k ((45:UInt8).toNat:Int)=true from hm] at HM
     go_wp2_with fail
     go_loopw [7] (fun i wr=>(i= .int .i64 0∨i= .int .i64 1)∧w=wr) (fun i _=>1 - (intOf i).toNat)
     case atStart=>exact ⟨.inl rfl,rfl⟩
     case round =>
      obtain ⟨rfl | rfl,rfl⟩:=hrel
      · go_wp2_with fail
        refine HP.out.mono ?_;rintro e w1 ⟨rfl,rfl⟩
        go_wp2_with fail
        go_roundw
        case rel=>exact ⟨.inr rfl,trivial⟩
        case measure=>simp [intOf]
      · go_wp2_with fail
        refine HM.out.mono ?_;rintro e w1 ⟨rfl,rfl⟩;have hlt:k<s.size:=kCQ hm;have hjr:(1:Int)≤(r.size:Int):=by omega
        have HX2:=hJ (HE2.out hlt)
        go_wp2_with fail
        refine bodyPost_ret (v:=.tuple #[.int .i64 (-1),.bool true]) (by simp [results,results110,go_sem]) rfl ?_;refine ⟨?_,?_,(Kb.refl p _).set _ _⟩
        · unfold kI2 signB
          simp [hp,hm]
        · have h1:=HB.out
          have e1:kGP s k=k+1:=by unfold kGP isTo;simp [hp,hm]
          rw [e1];unfold kEY at *;rw [← HX2.out];exact Bx.set (cs:=[.string r,.int .i64 num,.map (some bm)]) (by rw [← HU.out];exact h1) 0 _
   | false =>
     rw [show isAt s k ((45:UInt8).toNat:Int)=false from hm] at HM
     go_wp2_with fail
     go_loopw [7] (fun i wr=>(i= .int .i64 0∨i= .int .i64 1∨i= .int .i64 2)∧w=wr) (fun i _=>2 - (intOf i).toNat)
     case atStart=>exact ⟨.inl rfl,rfl⟩
     case round =>
      obtain ⟨rfl | rfl | rfl,rfl⟩:=hrel
      · go_wp2_with fail
        refine HP.out.mono ?_;rintro e w1 ⟨rfl,rfl⟩
        go_wp2_with fail
        go_roundw
        case rel=>exact ⟨.inr (.inl rfl),trivial⟩
        case measure=>simp [intOf]
      · go_wp2_with fail
        refine HM.out.mono ?_;rintro e w1 ⟨rfl,rfl⟩
        go_wp2_with fail
        go_roundw
        case rel=>exact ⟨.inr (.inr rfl),trivial⟩
        case measure=>simp [intOf]
      · go_wp2_with fail
        refine bodyPost_ret (v:=.tuple #[.int .i64 1,.bool false]) (by simp [results,results110,go_sem]) rfl ?_;refine ⟨?_,?_,Kb.refl p _⟩
        · unfold kI2 signB
          simp [hp,hm]
        · have e1:kGP s k=k:=by unfold kGP isTo;simp [hp,hm]
          rw [e1];exact HB.out
def runL (s:Str) (k:Nat):Nat:=kBW (fun i=>kB5 (bt s i)) s.size k
def runD (s:Str) (k:Nat):Nat:=kBW (fun i=>kAN (bt s i)) s.size k
theorem kI3 {s:Str} {k:Nat} (hk:k≤s.size):∀ i,i<(s.extract k (runD s k)).size→kAN (bt (s.extract k (runD s k)) i)=true:=fun i hi=>by
 have hes:runD s k≤s.size:=kCE hk;rw [kBM s hes] at hi;rw [kIL s hes (by omega)];exact kJS (P:=fun i=>kAN (bt s i)) (n:=s.size) (s.size - k) k (k+i) (Nat.le_refl _) (by omega) (by show k+i<runD s k;omega)
theorem dec_val:∀ (l:List UInt8) (a:Nat),(∀ c ∈ l,48≤c.toNat∧c.toNat≤57)→∃ n:Nat,Lib.decFrom a l=some n∧(l.map fun c=>(c.toNat:Int)).foldl (fun n c=>10 * n+(c - 48)) (a:Int)=n
 | [],a,_=>⟨a,rfl,rfl⟩
 | c :: r,a,h=>by
   have hc:=h c (List.mem_cons_self ..);obtain ⟨n,h1,h2⟩:=dec_val r (a * 10+(c.toNat - 48)) (fun x hx=>h x (List.mem_cons_of_mem _ hx));refine ⟨n,?_,?_⟩
   · unfold Lib.decFrom
     unfold Lib.digitVal;rw [if_pos hc];exact h1
   · rw [← h2]
     simp only [List.map_cons,List.foldl_cons]
     congr 1
     omega
theorem atoi_digits {d:Str} (hd:∀ i,i<d.size→kAN (bt d i)=true) (h1:1≤d.size) (h2:d.size≤18):Lib.atoiAll d.data.toList= .ok (decV d):=by
 have hm:∀ c ∈ d.data.toList,48≤c.toNat∧c.toNat≤57:=fun c hc=>by
  obtain ⟨i,hi⟩:=List.mem_iff_getElem?.1 hc
  have hlt:i<d.size:=by
   rcases Nat.lt_or_ge i d.data.toList.length with q | q
   · rw [Array.length_toList] at q;exact q
   · rw [List.getElem?_eq_none q] at hi;cases hi
  have:=of_decide_eq_true (hd i hlt);rw [kKK d i c hi] at this;omega
 obtain ⟨n,q1,q2⟩:=dec_val d.data.toList 0 hm
 have hv:decV d=n:=by
  rw [← q2];unfold decV decK;rw [List.take_of_length_le (by rw [kJY];exact Nat.le_refl _)];rfl
 rw [Lib.atoiAll_short _ (by rw [Array.length_toList];exact h2),hv];have hlen:d.data.toList.length=d.size:=by rw [Array.length_toList];rfl
 generalize d.data.toList=t at *;cases t with
 | nil=>simp at hlen;omega
 | cons c r =>
   have hc:=hm c (List.mem_cons_self ..);have q3:¬ c=45:=by rintro rfl;simp at hc
   have q4:¬ c=43:=by rintro rfl;simp at hc
   simp [Lib.atoi,q3,q4,Lib.decNat,q1,Lib.NumEnd.ofOption]
theorem kHL (s:Str) (hs:s.size≤1000000) (k p:Nat) (num:Int) (bm:Nat) (w:World) (hb:kEY s k p num bm w) (hk:k≤s.size) (E:Env w) (hp8:8≤p) :
 Calls Tryz.prog 168 #[.pointer (some ⟨p,0,none⟩)] w fun e w'=>e= .returned (.tuple #[.string (s.extract k (runL s k)),.bool (kAV (s.extract k (runL s k)))])∧kEY s (runL s k) p num bm w'∧Kb p w w':=by
 have hC:=rdr_take 172 (kBG func172 rfl rfl) kB5 kJ3 s hs k p num bm w hb hk;rw [show kBW (fun i=>kB5 (bt s i)) s.size k=runL s k from rfl] at hC;have HC:=hJ hC;clear hC;have HE:=hJ E;have hz:(s.extract k (runL s k)).size≤281474976710656:=by rw [ByteArray.size_extract];omega
 clear hb E;go_enter func168,ntmps168
 go_wp2_with fail
 refine HC.out.mono ?_;rintro e w1 ⟨rfl,hx,hk1⟩;have HX:=hJ hx;have HK:=hJ hk1;have HN:=hJ (kBP (s.extract k (runL s k)) hz w1 (HE.out.kb hk1 hp8));clear hx hk1 HC;generalize hve:s.extract k (runL s k)=v at *;have HVe:=hJ hve;clear hve
 go_wp2_with fail
 refine HN.out.mono ?_;rintro e w2 ⟨rfl,hb2⟩;have HX2:=hJ (HX.out.below hb2 HX.out.lt);have HK2:=hJ (HK.out.later hb2);clear HN hb2;generalize hoe:kAV v=o at *;have HOe:=hJ hoe;clear hoe
 go_wp2_with fail
 refine bodyPost_ret (v:=.tuple #[.string v,.bool o]) (by simp [results,results168,go_sem]) rfl ?_;exact ⟨by rw [HVe.out,HOe.out],HX2.out,HK2.out⟩
def kGC (d:Str):Bool:=decide (1≤d.size∧d.size≤7) && (bt d 0 != 48 || decide (d.size=1))
theorem atoi_none {d:ByteArray} (h:d.size=0) {v:Int} (hv:Lib.atoiAll d.data.toList= .ok v):False:=by
 rw [show d.data.toList=[] from List.eq_nil_of_length_eq_zero (by rw [Array.length_toList];exact h)] at hv;cases hv
theorem rdr_number (s:Str) (hs:s.size≤1000000) (k p:Nat) (num:Int) (bm:Nat) (w:World) (hb:kEY s k p num bm w) (hk:k≤s.size) (E:Env w) (hp8:8≤p) :
 Calls Tryz.prog 169 #[.pointer (some ⟨p,0,none⟩)] w fun e w'=>(∃ n,e= .returned (.tuple #[.int .i64 n,.bool (kGC (s.extract k (runD s k)))])∧(kGC (s.extract k (runD s k))=true→n=decV (s.extract k (runD s k))))∧kEY s (runD s k) p num bm w'∧Kb p w w':=by
 have hC:=rdr_take 167 (kBG func167 rfl rfl) kAN kFJ s hs k p num bm w hb hk;rw [show kBW (fun i=>kAN (bt s i)) s.size k=runD s k from rfl] at hC;have HC:=hJ hC;clear hC;have HE:=hJ E;have hz:(s.extract k (runD s k)).size≤281474976710656:=by rw [ByteArray.size_extract];omega
 have HD:=hJ (kI3 hk);have HN:Hid (kGC (s.extract k (runD s k))=(decide (1≤(s.extract k (runD s k)).size∧(s.extract k (runD s k)).size≤7) && (bt (s.extract k (runD s k)) 0 != 48 || decide ((s.extract k (runD s k)).size=1)))):=hJ rfl;clear hb E;go_enter func169,ntmps169
 go_wp2_with fail
 refine HC.out.mono ?_;rintro e w1 ⟨rfl,hx,hk1⟩;have HX:=hJ hx;have HK:=hJ hk1;have HA:=hJ (atoi_any (s.extract k (runD s k)) hz w1 (HE.out.kb hk1 hp8));clear hx hk1 HC;generalize hde:s.extract k (runD s k)=d at *;generalize hke:runD s k=k2 at *;have HDe:=hJ hde;have HKe:=hJ hke;clear hde hke
 go_wp2_with fail
 refine HA.out.mono ?_;rintro e w2 ⟨hv,hb2⟩;have HX2:=hJ (HX.out.below hb2 HX.out.lt);have HK2:=hJ (HK.out.later hb2);clear HA hb2
 have HFin:Hid (∀ (v:Int) (o:Bool),kGC d=o→(o=true→v=decV d)→(∃ n,Ending.returned (.tuple #[.int .i64 v,.bool o])= .returned (.tuple #[.int .i64 n,.bool (kGC (s.extract k (runD s k)))])∧(kGC (s.extract k (runD s k))=true→n=decV (s.extract k (runD s k))))∧kEY s (runD s k) p num bm w2∧Kb p w w2):=hJ (fun v o ho hvo=>by
  rw [HKe.out,HDe.out,ho];exact ⟨⟨v,rfl,hvo⟩,HX2.out,HK2.out⟩)
 clear HDe HKe HX2 HK2 HX HK HE;rcases hv with ⟨v,hv,rfl⟩ | ⟨hv,v,t,q,rfl⟩
 · have h1:1≤d.size:=by
    rcases Nat.eq_zero_or_pos d.size with h0 | h0
    · exact (atoi_none h0 hv).elim
    · exact h0
   have g0:=kBH d 0 h1;by_cases h7:d.size≤7
   · have q7:decide ((d.size:Int)≤7)=true:=decide_eq_true (by omega)
     have hval:v=decV d:=by
      rw [atoi_digits HD.out h1 (by omega)] at hv
      injection hv with hv
      exact hv.symm
     have HV:=hJ hval;clear hv hval;by_cases h48:(bt d 0==48)=true
     · have h48n:(bt d 0 != 48)=false:=by unfold bne;rw [h48];rfl
       by_cases hone:d.size=1
       · have HF:Hid (kGC d=true):=hJ (by rw [HN.out,decide_eq_true ⟨h1,h7⟩,decide_eq_true hone,Bool.or_true];rfl)
         have hz48:(d.toList==[48])=true:=by
          obtain ⟨c,r,e1,e2,e3⟩:=bt_list d h1;rw [List.drop_zero] at e1;have hr:r=[]:=by rw [e3];exact List.drop_of_length_le (by rw [Array.length_toList];show d.size≤_;omega)
          rw [ByteArray.toList_eq,e1,hr];have:c.toNat=48:=by have:=beq_iff_eq.1 h48;omega
          rw [show c=48 from UInt8.toNat_inj.1 this];rfl
         clear HN;generalize bt d 0=c0 at *
         go_wp2_with fail
         refine bodyPost_ret (v:=.tuple #[.int .i64 v,.bool true]) (by simp [results,results169,go_sem]) rfl ?_;exact HFin.out v true HF.out (fun _=>HV.out)
       · have HF:Hid (kGC d=false):=hJ (by rw [HN.out,decide_eq_true ⟨h1,h7⟩,decide_eq_false hone,h48n];rfl)
         have hz48:(d.toList==[48])=false:=by
          rw [ByteArray.toList_eq,beq_eq_false_iff_ne];intro e;apply hone;have:d.data.toList.length=1:=by rw [e];rfl
          rw [Array.length_toList] at this;exact this
         clear HN;generalize bt d 0=c0 at *
         go_wp2_with fail
         refine bodyPost_ret (v:=.tuple #[.int .i64 v,.bool false]) (by simp [results,results169,go_sem]) rfl ?_;exact HFin.out v false HF.out (fun h=>by cases h)
     · have h48:(bt d 0==48)=false:=by simpa using h48
       have h48n:(bt d 0 != 48)=true:=by unfold bne;rw [h48];rfl
       have HF:Hid (kGC d=true):=hJ (by rw [HN.out,decide_eq_true ⟨h1,h7⟩,h48n];rfl);clear HN;generalize bt d 0=c0 at *
       go_wp2_with fail
       refine bodyPost_ret (v:=.tuple #[.int .i64 v,.bool true]) (by simp [results,results169,go_sem]) rfl ?_;exact HFin.out v true HF.out (fun _=>HV.out)
   · have q7:decide ((d.size:Int)≤7)=false:=decide_eq_false (by omega)
     have HF:Hid (kGC d=false):=hJ (by rw [HN.out,decide_eq_false (by omega)];rfl);clear HN hv;generalize bt d 0=c0 at *
     go_wp2_with fail
     refine bodyPost_ret (v:=.tuple #[.int .i64 v,.bool false]) (by simp [results,results169,go_sem]) rfl ?_;exact HFin.out v false HF.out (fun h=>by cases h)
 · have hno:¬ (1≤d.size∧d.size≤7):=fun ⟨h1,h7⟩=>hv _ (atoi_digits HD.out h1 (by omega))
   have HF:Hid (kGC d=false):=hJ (by rw [HN.out,decide_eq_false hno];rfl);clear HN hv hno
   go_wp2_with fail
   refine bodyPost_ret (v:=.tuple #[.int .i64 v,.bool false]) (by simp [results,results169,go_sem]) rfl ?_;exact HFin.out v false HF.out (fun h=>by cases h)
def nameP (n:Int) (s:Str) (k:Nat):Int × Str × Bool × Nat:=(n,s.extract k (runL s k),kAV (s.extract k (runL s k)),runL s k)
def itemQ (n:Int) (s:Str) (e:Nat):Int × Str × Bool × Nat :=
 if isAt s (blk s e) 42 then nameP n s (blk s (blk s e+1))
 else if decide (s.size≤e) || !kB5 (bt s e) then (n,⟨#[]⟩,true,e)
 else nameP n s e
def kBV (s:Str) (k:Nat):Int × Str × Bool × Nat :=
 if s.size≤k then (0,⟨#[]⟩,false,k)
 else if kAN (bt s k) then if kGC (s.extract k (runD s k)) then itemQ (decV (s.extract k (runD s k))) s (runD s k) else (0,⟨#[]⟩,false,runD s k)
 else nameP 1 s k
structure RSt (s:Str) (k p bm n:Nat) (x:Lin) (w:World):Prop where
 rd:kEY s k p x.const bm w
 mp:∃ D,MapF w bm n D (kAP x.terms)
 ne:p≠bm
theorem RSt.step {s:Str} {k k' p bm n:Nat} {x:Lin} {w w':World} (h:RSt s k p bm n x w) (hx:kEY s k' p x.const bm w') (hk:Kb p w w'):RSt s k' p bm n x w' :=
 ⟨hx,h.mp.imp fun D hm=>⟨by
   obtain ⟨es,clock,h1,h2⟩:=hm.own;exact ⟨es,clock,(hk.block bm hm.lt (Ne.symm h.ne)).trans h1,h2⟩,hm.at_⟩,h.ne⟩
theorem kJG (x:Lin) (n:Int) {v:Str} (h:v.toList.isEmpty=true):kEX x n v=⟨x.const+n,x.terms⟩:=by unfold kEX;rw [if_pos h]
theorem accum_name (x:Lin) (n:Int) {v:Str} (h:v.toList.isEmpty=false):kEX x n v=⟨x.const,plus x.terms v n⟩:=by unfold kEX;rw [if_neg (by rw [h];decide)]
theorem RSt.put {s:Str} {k p bm n:Nat} {x:Lin} {w w':World} (h:RSt s k p bm n x w) (hs:Srt x.terms) {v:Str} {c:Int} {D':DataW Unit} (hm:MapF w' bm (n+1) D' (fun u=>if seq v u then kAP x.terms v+c else kAP x.terms u)) (hg:w.grownBy w' (some bm)) (hv:v.toList.isEmpty=false):RSt s k p bm (n+1) (kEX x c v) w':=by
 rw [accum_name x c hv];refine ⟨(hg.block p h.rd.lt (fun e=>h.ne (by cases e;rfl))).trans h.rd,⟨D',hm.own,fun u=>?_⟩,h.ne⟩;rw [hm.at_ u]
 show _=DataW.lit (.int .i64 (kAP (plus x.terms v c) u))
 rw [plus_coef hs v c u];by_cases q:seq v u=true
 · rw [if_pos q,if_pos q,(kA3 v u).1 q]
 · rw [if_neg q,if_neg q,Int.add_zero]
def itemRes (r:Int × Str × Bool × Nat) (sg:Int) (s:Str) (p bm n:Nat) (x:Lin) (w:World) (e:Ending) (w':World):Prop :=
 e= .returned (.bool r.2.2.1)∧K2 p bm w w'∧(r.2.2.1=true→∃ n',n'≤n+1∧RSt s r.2.2.2 p bm n' (kEX x (sg * r.1) r.2.1) w')
theorem K2.of_kb {p b:Nat} {w w':World} (h:Kb p w w'):K2 p b w w':=⟨h.os,h.tape,h.output,h.size,fun k hk h1 _=>h.block k hk h1⟩
theorem rdr_item (s:Str) (hs:s.size≤1000000) (k p bm n m:Nat) (x:Lin) (w:World) (hb:RSt s k p bm n x w) (hk:k≤s.size) (sg:Int) (hsg:sg=1∨sg= -1) (E:Env w) (hp8:8≤p) (hb8:8≤bm) (hA:AccOk m x) (hm:m≤1000000) (hn:n≤1000000) :
 Calls Tryz.prog 108 #[.pointer (some ⟨p,0,none⟩),.int .i64 sg] w (itemRes (kBV s k) sg s p bm n x w):=by
 have HS:=hJ hb;have HE:=hJ E;have z0:=hb.rd.cell 0 _ rfl;have hsz:(s.extract k s.size).size=s.size - k:=kBM s (Nat.le_refl _);clear hb E;by_cases hend:s.size≤k
 · have HF:Hid (kBV s k=(0,⟨#[]⟩,false,k)):=hJ (by unfold kBV;rw [if_pos hend])
   have hem:(s.extract k s.size).toList.isEmpty=true:=by rw [ByteArray.toList_eq,show (s.extract k s.size).data.toList=[] from List.eq_nil_of_length_eq_zero (by rw [Array.length_toList];show (s.extract k s.size).size=0;omega)];rfl
   generalize s.extract k s.size=r at *;go_enter func108,ntmps108
   go_wp2_with fail
   go_ret;exact ⟨by rw [HF.out];rfl,K2.refl _ _ _,fun h=>by rw [HF.out] at h;cases h⟩
 · have hlt:k<s.size:=by omega
   have hem:(s.extract k s.size).toList.isEmpty=false:=by
    cases he:(s.extract k s.size).toList.isEmpty with
    | false=>rfl
    | true=>have:=kGZ he;omega
   have hb0:bt (s.extract k s.size) 0=bt s k:=by rw [kIL s (Nat.le_refl _) (by omega),Nat.add_zero]
   generalize s.extract k s.size=r at *;have g0:=kBH r 0 (by omega);rw [hb0] at g0;have hrl:(0:Int)<(r.size:Int):=by omega
   clear hb0;have HC:=hJ (kFJ (bt s k));by_cases hd:kAN (bt s k)=true
   · have HC2:=HC.out
     rw [hd] at HC2;have HC:=hJ HC2;have HI:Hid (kBV s k=if kGC (s.extract k (runD s k)) then itemQ (decV (s.extract k (runD s k))) s (runD s k) else (0,⟨#[]⟩,false,runD s k)):=hJ (by unfold kBV;rw [if_neg hend,if_pos hd]);have hdg:=kI3 hk;have hke:k≤runD s k:=kB1 _ _ _;have hes:runD s k≤s.size:=kCE hk;have HNu:=hJ (rdr_number s hs k p x.const bm w HS.out.rd hk HE.out hp8)
     have HOk:Hid (kGC (s.extract k (runD s k))=true→0≤decV (s.extract k (runD s k))∧decV (s.extract k (runD s k))<10000000):=hJ (fun h=>by
      unfold kGC at h;rw [Bool.and_eq_true] at h;have h7:=of_decide_eq_true h.1;exact decK_lt hdg h7.2 (Nat.le_refl _))
     clear HC2 hd hdg;generalize bt s k=c0 at *;generalize s.extract k (runD s k)=d at *;generalize runD s k=e at *;go_enter func108,ntmps108
     go_wp2_with fail
     refine (HC.out _).mono ?_;rintro e _ ⟨rfl,rfl⟩
     go_wp2_with fail
     refine HNu.out.mono ?_;rintro e2 w1 ⟨⟨n0,rfl,hn0⟩,hx1,hk1⟩;have HS1:=hJ (HS.out.step hx1 hk1);have HK1:=hJ (K2.of_kb (b:=bm) hk1);have HE1:=hJ (HE.out.kb hk1 hp8);clear hx1 hk1 HNu HC z0;cases hno:kGC d with
     | false =>
       have HF:Hid (kBV s k=(0,⟨#[]⟩,false,e)):=hJ (by rw [HI.out,if_neg (by rw [hno];decide)])
       go_wp2_with fail
       go_ret;exact ⟨by rw [HF.out];rfl,HK1.out,fun h=>by rw [HF.out] at h;cases h⟩
     | true =>
       have hv:=hn0 hno;obtain ⟨h0,h1⟩:=HOk.out hno;have HI2:Hid (kBV s k=itemQ (decV d) s e):=hJ (by rw [HI.out,if_pos hno]);rw [← hv] at h0 h1 HI2;clear hn0 hno hv HOk HI;have hb: -10000000≤sg * n0∧sg * n0≤10000000:=by rcases hsg with rfl | rfl <;> omega
       have hp1:IntKind.i64.wrap (sg * n0)=sg * n0:=by rw [IntKind.wrap_i64];omega
       have hp2: -9223372036854775808≤sg * n0:=by omega
       have hp3:sg * n0≤9223372036854775807:=by omega
       have HQ1:Hid (isAt s (blk s e) 42=true→kBV s k=nameP n0 s (blk s (blk s e+1))):=hJ (fun q=>by rw [HI2.out];unfold itemQ;rw [if_pos q]);have HQ2:Hid (isAt s (blk s e) 42=false→(decide (s.size≤e) || !kB5 (bt s e))=true→kBV s k=(n0,⟨#[]⟩,true,e)):=hJ (fun q q2=>by rw [HI2.out];unfold itemQ;rw [if_neg (by rw [q];decide),if_pos q2]);have HQ3:Hid (isAt s (blk s e) 42=false→(decide (s.size≤e) || !kB5 (bt s e))=false→kBV s k=nameP n0 s e):=hJ (fun q q2=>by rw [HI2.out];unfold itemQ;rw [if_neg (by rw [q];decide),if_neg (by rw [q2];decide)]);have z1:=HS1.out.rd.cell 0 _ rfl;have HT:Hid ((⟨(Lib.trimLeftB (s.extract e s.size).data.toList 32).toArray⟩:Str)=s.extract (blk s e) s.size):=hJ (mk_eq (by rw [kJL,kJL];exact trim_sub s _ e (Nat.le_refl _)));have HTr:=Tryz.strings_TrimLeft_one (s.extract e s.size) 32 (by decide) w1;rw [HT.out] at HTr;have HTr:=hJ HTr;have hPr:=Tryz.strings_HasPrefix (s.extract (blk s e) s.size) ⟨#[42]⟩ w1
       change Calls _ _ _ _ fun e w'=>e= .returned (.bool (Lib.hasPrefix _ [42]))∧_ at hPr
       rw [pre_one] at hPr;have hbe:blk s e≤s.size:=kFP hes;have HX1:Hid (blk s e<s.size→(s.extract (blk s e) s.size).extract 1 (s.size - blk s e)=s.extract (blk s e+1) s.size):=hJ (fun hj=>by rw [sub_sub s (by omega),show blk s e+(s.size - blk s e)=s.size by omega]);have hsa:(s.extract (blk s e) s.size).size=s.size - blk s e:=kBM s (Nat.le_refl _);have hse:(s.extract e s.size).size=s.size - e:=kBM s (Nat.le_refl _);have HBte:Hid (e<s.size→bt (s.extract e s.size) 0=bt s e):=hJ (fun h=>by rw [kIL s (Nat.le_refl _) (by omega),Nat.add_zero]);have hU:kEY s e p x.const bm w1=Bx w1 p 145 [.string (s.extract e s.size),.int .i64 x.const,.map (some bm)]:=rfl;have HU:=hJ hU;clear HT hU HI2;cases ha:isAt s (blk s e) 42 with
       | true =>
         rw [show isAt s (blk s e) ((42:UInt8).toNat:Int)=true from ha] at hPr;have HPr:=hJ hPr;have hlt1:=kCQ ha;have HF:=hJ (HQ1.out ha);have HX2:=hJ (HX1.out hlt1);have hone:(1:Int)≤((s.extract (blk s e) s.size).size:Int):=by omega
         have f1:=HS1.out.rd.fz 0;clear hPr HQ1 HQ2 HQ3 HX1 ha HBte hse HS;generalize blk s e=b1 at *;generalize s.extract b1 s.size=af at *;generalize s.extract e s.size=re at *
         go_wp2_with fail
         refine HTr.out.mono ?_;rintro e3 w1 ⟨rfl,rfl⟩
         go_wp2_with fail
         refine HPr.out.mono ?_;rintro e3 w1 ⟨rfl,rfl⟩
         have HSa:Hid (RSt s (b1+1) p bm n x (w1.setCell ⟨p,0,none⟩ (.string (af.extract 1 (s.size - b1))))):=hJ (HS1.out.step (by
          have h1:=HS1.out.rd;rw [HU.out] at h1;unfold kEY;rw [← HX2.out];exact h1.set 0 _) ((Kb.refl p _).set _ _))
         have HKa:=hJ (HK1.out.trans (K2.set (b:=bm) w1 0 (.string (af.extract 1 (s.size - b1)))));have HEa:=hJ (HE1.out.kb ((Kb.refl p _).set 0 (.string (af.extract 1 (s.size - b1)))) hp8)
         go_wp2_with fail
         clear HTr HPr z1 f1 HS1 HE1 HK1 HU HX2;generalize w1.setCell ⟨p,0,none⟩ (.string (af.extract 1 (s.size - b1)))=w2 at *;refine (kH4 s (b1+1) p x.const bm _ HSa.out.rd).mono ?_;rintro e3 w3 ⟨rfl,hx3,hk3⟩;have HSq:=hJ (HSa.out.step hx3 hk3);have HKq:=hJ (HKa.out.trans (K2.of_kb hk3));have HEq:=hJ (HEa.out.kb hk3 hp8);have hbs:blk s (b1+1)≤s.size:=kFP (by omega);clear hx3 hk3 HSa HKa HEa;generalize blk s (b1+1)=b2 at *
         go_wp2_with fail
         refine (kHL s hs b2 p x.const bm _ HSq.out.rd hbs HEq.out hp8).mono ?_;rintro e w2 ⟨rfl,hx2,hk2⟩;have HS2:=hJ (HSq.out.step hx2 hk2);have HK2:=hJ (HKq.out.trans (K2.of_kb hk2));have hvs:(s.extract b2 (runL s b2)).size≤maxLen:=by rw [ByteArray.size_extract];unfold maxLen;omega
         have HNP:Hid (kBV s k=(n0,s.extract b2 (runL s b2),kAV (s.extract b2 (runL s b2)),runL s b2)):=hJ HF.out;clear hx2 hk2 HSq HKq HEq HF;generalize s.extract b2 (runL s b2)=v at *;generalize runL s b2=k9 at *;obtain ⟨D,hM⟩:=HS2.out.mp;have hcb:=kGL (by omega) hA.bd v;have hlk:=hM.look v hvs;have hw2:IntKind.i64.wrap (kAP x.terms v+(sg * n0))=kAP x.terms v+(sg * n0):=by rw [IntKind.wrap_i64];omega
         obtain ⟨w6,D6,hr6,hM6,hg6⟩:=hM.put (by unfold maxLen;omega) v hvs (kAP x.terms v+(sg * n0)) (by omega);have y2:=HS2.out.rd.cell 2 _ rfl;have HK6:Hid (K2 p bm w w6):=hJ (HK2.out.trans (K2.of_grown hg6));have HP6:Hid (kAV v=true→RSt s k9 p bm (n+1) (kEX x ((sg * n0)) v) w6):=hJ (fun h=>HS2.out.put hA.srt hM6 hg6 (kGD h));clear hcb hM hM6 hg6 HK2 HS2;generalize kAP x.terms v=cf at *;generalize kAV v=o at *
         go_wp2_with fail
         go_ret;exact ⟨by rw [HNP.out];rfl,HK6.out,fun h=>by rw [HNP.out] at h ⊢;exact ⟨n+1,Nat.le_refl _,by rw [show sg * (n0:Int)=(sg * n0) by first | rfl | omega];exact HP6.out h⟩⟩
       | false =>
         rw [show isAt s (blk s e) ((42:UInt8).toNat:Int)=false from ha] at hPr;have HPr:=hJ hPr;have HR2:=hJ (HQ2.out ha);have HR3:=hJ (HQ3.out ha);clear hPr HQ1 HQ2 HQ3 HX1 ha HS;generalize blk s e=b1 at *;generalize s.extract b1 s.size=af at *;generalize s.extract e s.size=re at *;by_cases hee:s.size≤e
         · have HF:=hJ (HR2.out (by rw [decide_eq_true hee];rfl))
           have hem2:re.toList.isEmpty=true:=by rw [ByteArray.toList_eq,show re.data.toList=[] from List.eq_nil_of_length_eq_zero (by rw [Array.length_toList];show re.size=0;omega)];rfl
           clear HR2 HR3 HBte
           go_wp2_with fail
           refine HTr.out.mono ?_;rintro e3 w1 ⟨rfl,rfl⟩
           go_wp2_with fail
           refine HPr.out.mono ?_;rintro e3 w1 ⟨rfl,rfl⟩;clear HTr HPr;have z2:=HS1.out.rd.cell 1 _ rfl;have f2:=HS1.out.rd.fz 1;have hcc:=hA.const;have hw2:IntKind.i64.wrap (x.const+sg * n0)=x.const+sg * n0:=by rw [IntKind.wrap_i64];omega
           have HSc:Hid (RSt s e p bm n (kEX x (sg * n0) ⟨#[]⟩) (w1.setCell ⟨p,1,none⟩ (.int .i64 (x.const+sg * n0)))):=hJ (by
            rw [kJG x _ (by rw [ByteArray.toList_eq];rfl)];exact ⟨HS1.out.rd.set 1 _,HS1.out.mp.imp fun D hm=>hm.setCell (by show p≠bm;exact HS1.out.ne) _,HS1.out.ne⟩)
           have HKc:=hJ (HK1.out.trans (K2.set (b:=bm) w1 1 (.int .i64 (x.const+sg * n0))));clear hcc
           go_wp2_with fail
           go_ret;exact ⟨by rw [HF.out];rfl,HKc.out,fun _=>by rw [HF.out];exact ⟨n,Nat.le_succ _,HSc.out⟩⟩
         · have hlte:e<s.size:=by omega
           have hem2:re.toList.isEmpty=false:=by
            cases he:re.toList.isEmpty with
            | false=>rfl
            | true=>have:=kGZ he;omega
           have h0re:0<re.size:=by rw [hse];omega
           have ge:=kBH re 0 h0re;rw [HBte.out hlte] at ge;clear HBte;have hrl2:(0:Int)<(re.size:Int):=by omega
           have hL:=fun W=>kJ3 (bt s e) W
           generalize bt s e=ce at *;cases hl:kB5 ce with
           | true =>
             have HF:=hJ (HR3.out (by rw [decide_eq_false hee,hl];rfl));rw [hl] at hL;have HL:=hJ hL;clear hL HR2 HR3
             go_wp2_with fail
             refine HTr.out.mono ?_;rintro e3 w1 ⟨rfl,rfl⟩
             go_wp2_with fail
             refine HPr.out.mono ?_;rintro e3 w1 ⟨rfl,rfl⟩;clear HTr HPr
             go_wp2_with fail
             refine (HL.out _).mono ?_;rintro e _ ⟨rfl,rfl⟩
             go_wp2_with fail
             have HSq:=HS1;have HKq:=HK1;have HEq:=HE1;have hbs:=hes;refine (kHL s hs e p x.const bm _ HSq.out.rd hbs HEq.out hp8).mono ?_;rintro e w2 ⟨rfl,hx2,hk2⟩;have HS2:=hJ (HSq.out.step hx2 hk2);have HK2:=hJ (HKq.out.trans (K2.of_kb hk2));have hvs:(s.extract e (runL s e)).size≤maxLen:=by rw [ByteArray.size_extract];unfold maxLen;omega
             have HNP:Hid (kBV s k=(n0,s.extract e (runL s e),kAV (s.extract e (runL s e)),runL s e)):=hJ HF.out;clear hx2 hk2 HSq HKq HEq HF;generalize s.extract e (runL s e)=v at *;generalize runL s e=k9 at *;obtain ⟨D,hM⟩:=HS2.out.mp;have hcb:=kGL (by omega) hA.bd v;have hlk:=hM.look v hvs;have hw2:IntKind.i64.wrap (kAP x.terms v+(sg * n0))=kAP x.terms v+(sg * n0):=by rw [IntKind.wrap_i64];omega
             obtain ⟨w6,D6,hr6,hM6,hg6⟩:=hM.put (by unfold maxLen;omega) v hvs (kAP x.terms v+(sg * n0)) (by omega);have y2:=HS2.out.rd.cell 2 _ rfl;have HK6:Hid (K2 p bm w w6):=hJ (HK2.out.trans (K2.of_grown hg6));have HP6:Hid (kAV v=true→RSt s k9 p bm (n+1) (kEX x ((sg * n0)) v) w6):=hJ (fun h=>HS2.out.put hA.srt hM6 hg6 (kGD h));clear hcb hM hM6 hg6 HK2 HS2;generalize kAP x.terms v=cf at *;generalize kAV v=o at *
             go_wp2_with fail
             go_ret;exact ⟨by rw [HNP.out];rfl,HK6.out,fun h=>by rw [HNP.out] at h ⊢;exact ⟨n+1,Nat.le_refl _,by rw [show sg * (n0:Int)=(sg * n0) by first | rfl | omega];exact HP6.out h⟩⟩
           | false =>
             have HF:=hJ (HR2.out (by rw [decide_eq_false hee,hl];rfl));rw [hl] at hL;have HL:=hJ hL;clear hL HR2 HR3
             go_wp2_with fail
             refine HTr.out.mono ?_;rintro e3 w1 ⟨rfl,rfl⟩
             go_wp2_with fail
             refine HPr.out.mono ?_;rintro e3 w1 ⟨rfl,rfl⟩;clear HTr HPr;have z2:=HS1.out.rd.cell 1 _ rfl;have f2:=HS1.out.rd.fz 1;have hcc:=hA.const;have hw2:IntKind.i64.wrap (x.const+sg * n0)=x.const+sg * n0:=by rw [IntKind.wrap_i64];omega
             have HSc:Hid (RSt s e p bm n (kEX x (sg * n0) ⟨#[]⟩) (w1.setCell ⟨p,1,none⟩ (.int .i64 (x.const+sg * n0)))):=hJ (by
              rw [kJG x _ (by rw [ByteArray.toList_eq];rfl)];exact ⟨HS1.out.rd.set 1 _,HS1.out.mp.imp fun D hm=>hm.setCell (by show p≠bm;exact HS1.out.ne) _,HS1.out.ne⟩)
             have HKc:=hJ (HK1.out.trans (K2.set (b:=bm) w1 1 (.int .i64 (x.const+sg * n0))));clear hcc
             go_wp2_with fail
             refine (HL.out _).mono ?_;rintro e _ ⟨rfl,rfl⟩
             go_wp2_with fail
             go_wp2_with fail
             go_ret;exact ⟨by rw [HF.out];rfl,HKc.out,fun _=>by rw [HF.out];exact ⟨n,Nat.le_succ _,HSc.out⟩⟩
   · have hd:kAN (bt s k)=false:=by simpa using hd
     have HF:Hid (kBV s k=nameP 1 s k):=hJ (by unfold kBV;rw [if_neg hend,if_neg (by rw [hd];decide)]);have HC2:=HC.out;rw [hd] at HC2;have HC:=hJ HC2;have HSq:=HS;have HKq:=hJ (K2.refl p bm w);have HEq:=HE;have hbs:=hk;clear HC2 hd;generalize bt s k=c0 at *;go_enter func108,ntmps108
     go_wp2_with fail
     refine (HC.out _).mono ?_;rintro e _ ⟨rfl,rfl⟩
     go_wp2_with fail
     refine (kHL s hs k p x.const bm _ HSq.out.rd hbs HEq.out hp8).mono ?_;rintro e w2 ⟨rfl,hx2,hk2⟩;have HS2:=hJ (HSq.out.step hx2 hk2);have HK2:=hJ (HKq.out.trans (K2.of_kb hk2));have hvs:(s.extract k (runL s k)).size≤maxLen:=by rw [ByteArray.size_extract];unfold maxLen;omega
     have HNP:Hid (kBV s k=(1,s.extract k (runL s k),kAV (s.extract k (runL s k)),runL s k)):=hJ HF.out;clear hx2 hk2 HSq HKq HEq HF;generalize s.extract k (runL s k)=v at *;generalize runL s k=k9 at *;obtain ⟨D,hM⟩:=HS2.out.mp;have hcb:=kGL (by omega) hA.bd v;have hlk:=hM.look v hvs;have hw2:IntKind.i64.wrap (kAP x.terms v+sg)=kAP x.terms v+sg:=by rw [IntKind.wrap_i64];omega
     obtain ⟨w6,D6,hr6,hM6,hg6⟩:=hM.put (by unfold maxLen;omega) v hvs (kAP x.terms v+sg) (by omega);have y2:=HS2.out.rd.cell 2 _ rfl;have HK6:Hid (K2 p bm w w6):=hJ (HK2.out.trans (K2.of_grown hg6));have HP6:Hid (kAV v=true→RSt s k9 p bm (n+1) (kEX x (sg) v) w6):=hJ (fun h=>HS2.out.put hA.srt hM6 hg6 (kGD h));clear hcb hM hM6 hg6 HK2 HS2;generalize kAP x.terms v=cf at *;generalize kAV v=o at *
     go_wp2_with fail
     go_ret;exact ⟨by rw [HNP.out];rfl,HK6.out,fun h=>by rw [HNP.out] at h ⊢;exact ⟨n+1,Nat.le_refl _,by rw [show sg * (1:Int)=sg by first | rfl | omega];exact HP6.out h⟩⟩
theorem digit10 {n:Nat} (h:n<10):(⟨#[48,49,50,51,52,53,54,55,56,57]⟩:Str).extract n (n+1)=kAS (n:Int):=by
 unfold kAS;rw [Lib.itoa_nonneg,Lib.decDigits_one h];have:n=0∨n=1∨n=2∨n=3∨n=4∨n=5∨n=6∨n=7∨n=8∨n=9:=by omega
 rcases this with rfl | rfl | rfl | rfl | rfl | rfl | rfl | rfl | rfl | rfl <;> rfl
theorem itoa_split {n:Nat} (h:¬ n<10):kAS ((n / 10:Nat):Int)++kAS ((n % 10:Nat):Int)=kAS (n:Int):=by
 unfold kAS;rw [Lib.itoa_nonneg,Lib.itoa_nonneg,Lib.itoa_nonneg,Lib.decDigits_one (i:=n % 10) (by omega)];rw [show Lib.decDigits n=Lib.decDigits (n / 10)++[UInt8.ofNat (48+n % 10)] from by rw [Lib.decDigits,dif_neg h]];apply ByteArray.ext;rw [ByteArray.data_append];simp
theorem itoa_minus {n:Nat} (h:1≤n):(⟨#[45]⟩:Str)++kAS (n:Int)=kAS (-(n:Int)):=by
 unfold kAS;rw [Lib.itoa_nonneg,Lib.itoa_neg n h];apply ByteArray.ext;rw [ByteArray.data_append];simp
theorem kIO:∀ (d n:Nat),n≤d→n≤10000000→∀ w,Calls Tryz.prog 156 #[.int .i64 (n:Int)] w fun e w'=>e= .returned (.string (kAS (n:Int)))∧Below w.heap.size w w':=by
 intro d
 induction d with
 | zero =>
   intro n hn hn2 w;obtain rfl:n=0:=by omega
   have HD:=hJ (digit10 (n:=0) (by decide));go_enter func156,ntmps156
   go_wp2_with fail
   go_ret;exact ⟨by rw [← HD.out];rfl,Below.refl _ _⟩
 | succ d ih =>
   intro n hn hn2 w;by_cases h10:n<10
   · have HD:=hJ (digit10 h10)
     have q1:¬ ((n:Int)<0):=by omega
     have q2:(n:Int)<10:=by omega
     have q3:(n:Int)≤(n:Int)+1:=by omega
     have q4:(n:Int)+1≤10:=by omega
     go_enter func156,ntmps156
     go_wp2_with fail
     go_ret;exact ⟨by rw [← HD.out];rfl,Below.refl _ _⟩
   · have HA:=hJ (fun W=>ih (n / 10) (by omega) (by omega) W)
     have HB:Hid (∀ W,Calls Tryz.prog 156 #[.int .i64 ((n:Int) % 10)] W fun e w'=>e= .returned (.string (kAS ((n:Int) % 10)))∧Below W.heap.size W w'):=hJ (fun W=>ih (n % 10) (by omega) (by omega) W);have HS:Hid (kAS ((n:Int) / 10)++kAS ((n:Int) % 10)=kAS (n:Int)):=hJ (itoa_split h10);have hz1:=kC6 ((n:Int) / 10) (by omega) (by omega);have hz2:=kC6 ((n:Int) % 10) (by omega) (by omega);have q1:¬ ((n:Int)<0):=by omega
     have q2:¬ ((n:Int)<10):=by omega
     have q0:(0:Int)≤(n:Int):=by omega
     clear ih;go_enter func156,ntmps156
     go_wp2_with fail
     refine (HA.out _).mono ?_;rintro e w1 ⟨rfl,hb1⟩
     go_wp2_with fail
     refine (HB.out _).mono ?_;rintro e w2 ⟨rfl,hb2⟩;generalize kAS ((n:Int) / 10)=a at *;generalize kAS ((n:Int) % 10)=b at *
     go_wp2_with fail
     go_ret;exact ⟨by rw [← HS.out];rfl,hb1.trans (hb2.mono hb1.size)⟩
theorem kF7 (n:Int) (h0: -10000000≤n) (h1:n≤10000000) (w:World):Calls Tryz.prog 156 #[.int .i64 n] w fun e w'=>e= .returned (.string (kAS n))∧Below w.heap.size w w':=by
 rcases Int.lt_or_le n 0 with hn | hn
 · obtain ⟨m,rfl⟩:∃ m:Nat,n= -(m:Int):=⟨n.natAbs,by omega⟩
   have HA:=hJ (fun W=>kIO m m (Nat.le_refl _) (by omega) W);have HS:=hJ (itoa_minus (n:=m) (by omega));have hz:=kC6 (m:Int) (by omega) (by omega);have q1: -(m:Int)<0:=hn;go_enter func156,ntmps156
   go_wp2_with fail
   refine (HA.out _).mono ?_;rintro e w1 ⟨rfl,hb1⟩;generalize kAS (m:Int)=a at *
   go_wp2_with fail
   go_ret;exact ⟨by rw [← HS.out];rfl,hb1⟩
 · obtain ⟨m,rfl⟩:∃ m:Nat,n=(m:Int):=⟨n.toNat,by omega⟩
   exact kIO m m (Nat.le_refl _) (by omega) w
end Go.Proofs.YtdjggkiagmlfpaaGreatDoor
