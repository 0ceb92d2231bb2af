/- The claim's texts, part UB1: contracts of the functions that the statement reaches, and what they say of the data. -/
import Derived.Test.YtkndimjghfomcaaGreatDoorU6
set_option maxRecDepth 100000
set_option maxHeartbeats 8000000
set_option linter.all false
namespace Go.Proofs.YtkndimjghfomcaaGreatDoor
open Go.Proofs.Tryz
open Go.RowKit
theorem kHD {s:Str} {t:Typ} (h:kBS s=some t) (hs:s.size≤10000) (w:World) :
 Calls Tryz.prog 37 #[.string s] w fun e w'=>(∃ ds,e= .returned (.tuple #[.agg ds.toArray,.int .i64 0])∧RTyp.rd (fun k=>w.heap.size≤k) w' ds t)∧Below w.heap.size w w':=by
 have:=kI5 s hs w;rw [h] at this;exact this
theorem kHE {s:Str} (h:kBS s=none) (hs:s.size≤10000) (w:World) :
 Calls Tryz.prog 37 #[.string s] w fun e w'=>(∃ ds,e= .returned (.tuple #[.agg ds.toArray,.int .i64 6])∧RTyp.rd (fun k=>w.heap.size≤k) w' ds kBJ)∧Below w.heap.size w w':=by
 have:=kI5 s hs w;rw [h] at this;exact this
theorem kKC (s p:Str):(cutL s p).size≤s.size:=by
 unfold cutL
 split
 · rw [ByteArray.size_extract];omega
 · exact Nat.le_refl _
theorem kKB (s p:Str):(cutR s p).size≤s.size∧(cutB s p=true→(cutR s p).size+p.size≤s.size)∧(cutB s p=false→(cutR s p).size=0):=by
 unfold cutR;cases h:cutB s p with
 | true =>
   unfold cutB at h;have:=of_decide_eq_true h;rw [if_pos rfl,ByteArray.size_extract];exact ⟨by omega,(fun _=>by omega),(fun q=>by cases q)⟩
 | false=>exact ⟨Nat.zero_le _,(fun q=>by cases q),(fun _=>rfl)⟩
theorem goSR_step (g:Nat) (r:Str) (acc:List Typ) (hr:r.size≠0):goSR (g+1) r acc=match kBS (cutL r comS) with | none=>none | some t=>if cutB r comS && (cutR r comS).toList.isEmpty then none else goSR g (cutR r comS) (acc++[t]):=by
 show (if r.size=0 then _ else _)=_
 rw [if_neg hr]
 first | done | rfl
theorem goSR_end (g:Nat) (r:Str) (acc:List Typ) (hr:r.size=0):goSR (g+1) r acc=some acc:=by
 show (if r.size=0 then _ else _)=_
 rw [if_pos hr]
theorem ref12_ParseScheme (s:Str) (hs:s.size≤10000) (w:World) :
 Calls Tryz.prog 25 #[.string s] w fun e w'=>(∃ ds,e= .returned (.tuple #[.agg ds.toArray,.int .i64 (optE (kC8 s))])∧RSch.rd (fun k=>w.heap.size≤k) w' ds (optS (kC8 s)))∧Below w.heap.size w w':=by
 have HR:Hid (kC8 s=if cutB s arrS && (decide (0<(cutL s arrS).size) && bt (cutL s arrS) 0==40) then (match goSR (s.size+1) ((cutL s arrS).extract 1 (cutL s arrS).size) [] with | none=>none | some ps=>match kBS (cutL (cutR s arrS) whrS) with | none=>none | some t=>match goWR (s.size+2) (cutR (cutR s arrS) whrS) (cutB (cutR s arrS) whrS) [] with | none=>none | some ls=>kIK s ⟨ps,t,ls⟩) else none):=hJ (by rw [← readSR_eq];rfl);have HC1:=hJ (fun W=>kJU s arrS (by omega) (by decide) (by decide) W);have h1z:=kKC s arrS;have h2z:=(kKB s arrS).1;have HC3:=hJ (fun W=>kJU (cutR s arrS) whrS (by omega) (by decide) (by decide) W);have h3z:=kKC (cutR s arrS) whrS;obtain ⟨h4z,h5z,_⟩:=kKB (cutR s arrS) whrS;have hrz:(cutL (cutR s arrS) whrS).size≤10000:=by omega
 have hwz:(cutR (cutR s arrS) whrS).size≤s.size:=by omega
 clear h3z h4z h5z;generalize kC8 s=res at *;have HRb:=hJ (Bx.fresh w 29 [.slice none 0 0,.string ⟨#[]⟩,.string ⟨#[]⟩,.slice none 0 0,.slice none 0 0]);have e1:(w.alloc (.cells #[.slice none 0 0,.string ⟨#[]⟩,.string ⟨#[]⟩,.slice none 0 0,.slice none 0 0] 29)).heap.size=w.heap.size+1:=by simp
 have HRs:=hJ (HRb.out.alloc (.cells #[.slice none 0 0,.string ⟨#[]⟩,.string ⟨#[]⟩,.slice none 0 0,.slice none 0 0] 29));have HBX:=hJ (Bx.fresh (w.alloc (.cells #[.slice none 0 0,.string ⟨#[]⟩,.string ⟨#[]⟩,.slice none 0 0,.slice none 0 0] 29)) 29 [.slice none 0 0,.string ⟨#[]⟩,.string ⟨#[]⟩,.slice none 0 0,.slice none 0 0]);have HBl:=hJ (((Below.refl _ w).alloc (Nat.le_refl _) (.cells #[.slice none 0 0,.string ⟨#[]⟩,.string ⟨#[]⟩,.slice none 0 0,.slice none 0 0] 29)).alloc (by rw [e1];omega) (.cells #[.slice none 0 0,.string ⟨#[]⟩,.string ⟨#[]⟩,.slice none 0 0,.slice none 0 0] 29));rw [e1] at HBX;clear HRb;go_enter func25,ntmps25
 go_wp2_with fail
 obtain ⟨g,hg⟩:∃ g,g=w.heap.size+1:=⟨_,rfl⟩
 have hgw:w.heap.size<g:=by omega
 rw [← hg] at HBX
 try rw [e1]
 try rw [← hg]
 clear e1 hg;generalize (w.alloc (.cells #[.slice none 0 0,.string ⟨#[]⟩,.string ⟨#[]⟩,.slice none 0 0,.slice none 0 0] 29)).alloc (.cells #[.slice none 0 0,.string ⟨#[]⟩,.string ⟨#[]⟩,.slice none 0 0,.slice none 0 0] 29)=W0 at *;refine (HC1.out _).mono ?_;rintro e W ⟨rfl,hb1⟩;replace HBX:=hJ (HBX.out.below hb1 HBX.out.lt);replace HRs:=hJ (HRs.out.below hb1 HRs.out.lt);replace HBl:=hJ (HBl.out.trans (hb1.mono HBl.out.size));clear HC1 hb1;have hgW:=HBX.out.lt;by_cases hok:(cutB s arrS && (decide (0<(cutL s arrS).size) && bt (cutL s arrS) 0==40))=true
 · replace HR:Hid (res=match goSR (s.size+1) ((cutL s arrS).extract 1 (cutL s arrS).size) [] with | none=>none | some ps=>match kBS (cutL (cutR s arrS) whrS) with | none=>none | some t=>match goWR (s.size+2) (cutR (cutR s arrS) whrS) (cutB (cutR s arrS) whrS) [] with | none=>none | some ls=>kIK s ⟨ps,t,ls⟩):=hJ (by rw [HR.out,if_pos hok])
   rw [Bool.and_eq_true,Bool.and_eq_true] at hok;obtain ⟨ok1,ok2,ok3⟩:=hok;have ok2:=of_decide_eq_true ok2;rw [ok1];generalize cutL (cutR s arrS) whrS=rt at *;generalize cutB (cutR s arrS) whrS=sm at *;generalize cutR (cutR s arrS) whrS=wh at *;generalize cutR s arrS=rs at *;generalize cutL s arrS=hd at *;have hne:hd.toList.isEmpty=false:=kDG ok2;have g0:=kBP hd 0 ok2;have hh1:=kBN hd (a:=1) (b:=hd.size) (Nat.le_refl _);have n3:(bt hd 0 != 40)=false:=by unfold bne;rw [ok3];rfl
   obtain ⟨tot,hto⟩:∃ tot,tot=goSR (s.size+1) (hd.extract 1 hd.size) []:=⟨_,rfl⟩
   rw [← hto] at HR;have HTo:=hJ hto.symm;clear hto ok1;generalize bt hd 0=c0 at *
   go_upto_block 0 with fail
   go_cut [8] (fun v8 W2=>∃ (ps:List Typ) (va:Option Addr) (vm vc B:Nat),g<B∧B≤W2.heap.size∧ps.length≤s.size∧Hid (tot=some ps)∧Hid (∀ t ∈ ps,kAD t=true)∧Hid (Bx W2 g 29 [.slice va vm vc,.string ⟨#[]⟩,.string ⟨#[]⟩,.slice none 0 0,.slice none 0 0])∧Hid (Own RTyp 26 (fun q=>B≤q) W2 B (.slice va vm vc) ps)∧Hid (Bx W2 w.heap.size 29 [.slice none 0 0,.string ⟨#[]⟩,.string ⟨#[]⟩,.slice none 0 0,.slice none 0 0])∧Hid (Below w.heap.size w W2))
   case first =>
    go_wp2_with fail
    have HR2:Hid (tot=none→res=none):=hJ (fun h=>by rw [HR.out,h])
    go_loopg [8] (s.size+1) (fun gk v8 wr=>∃ (r:Str) (ps:List Typ) (va:Option Addr) (vm vc:Nat),v8= .string r∧r.size<gk∧ps.length+r.size≤s.size∧W.heap.size≤wr.heap.size∧Hid (goSR gk r ps=tot)∧Hid (∀ t ∈ ps,kAD t=true)∧Hid (Bx wr g 29 [.slice va vm vc,.string ⟨#[]⟩,.string ⟨#[]⟩,.slice none 0 0,.slice none 0 0])∧Hid (Own RTyp 26 (fun q=>W.heap.size≤q) wr W.heap.size (.slice va vm vc) ps)∧Hid (Bx wr w.heap.size 29 [.slice none 0 0,.string ⟨#[]⟩,.string ⟨#[]⟩,.slice none 0 0,.slice none 0 0])∧Hid (Below w.heap.size w wr))
    case atStart=>exact ⟨_,[],none,0,0,rfl,by omega,by show 0+_≤_;omega,Nat.le_refl _,HTo,hJ (fun t ht=>by cases ht),HBX,hJ (Own.nil _ _ _ _ _),HRs,HBl⟩
    case round =>
     clear HBX HRs HBl HTo;obtain ⟨r,ps,va,vm,vc,rfl,hrg,hpl,hwz2,HRun,HV,HBX,HOwn,HRs,HBl⟩:=hrel;obtain ⟨gk,rfl⟩:∃ g,gk=g+1:=⟨gk - 1,by omega⟩
     cases hre:r.toList.isEmpty with
     | true =>
       have hr0:r.size=0:=by rw [kD8 hre];rfl
       have HTot:Hid (tot=some ps):=hJ (by rw [← HRun.out,goSR_end _ _ _ hr0])
       go_wp2_with fail
       go_meet
       exact ⟨ps,va,vm,vc,W.heap.size,hgW,hwz2,by omega,HTot,HV,HBX,HOwn,HRs,HBl⟩
     | false =>
       have hr0:=kDQ hre;replace HRun:Hid ((match kBS (cutL r comS) with | none=>none | some t=>if cutB r comS && (cutR r comS).toList.isEmpty then none else goSR gk (cutR r comS) (ps++[t]))=tot):=hJ (by rw [← HRun.out,goSR_step _ _ _ (by omega)]);have HCc:=hJ (kJU r comS (by omega) (by decide) (by decide) wr);have hlz:=kKC r comS;obtain ⟨q1z,q2z,q3z⟩:=kKB r comS;have hc2:comS.size=2:=rfl
       go_wp2_with fail
       refine HCc.out.mono ?_;rintro e wr2 ⟨rfl,hbc⟩;replace HBX:=hJ (HBX.out.below hbc HBX.out.lt);replace HOwn:=hJ (HOwn.out.below hbc);replace HRs:=hJ (HRs.out.below hbc HRs.out.lt);replace HBl:=hJ (HBl.out.trans (hbc.mono HBl.out.size));have hzc:=hbc.size;clear HCc hbc;generalize cutL r comS=x at *;obtain ⟨r2,hr2⟩:∃ r2,r2=cutR r comS:=⟨_,rfl⟩
       obtain ⟨b2,hb2⟩:∃ b2,b2=cutB r comS:=⟨_,rfl⟩
       have HSh:Hid (r2.size<r.size):=hJ (by
        rw [hr2];cases hq:cutB r comS with
        | true=>have:=q2z hq;omega
        | false=>have:=q3z hq;omega)
       rw [← hr2,← hb2] at HRun ⊢;clear hr2 hb2 q1z q2z q3z;cases hrx:kBS x with
       | none =>
         have HC:=hJ (kHE hrx (by omega) wr2);have HF:Hid (res=none):=hJ (HR2.out (by rw [← HRun.out,hrx]));clear HRun hrx
         go_wp2_with fail
         refine HC.out.mono ?_;rintro e w4 ⟨⟨ds,rfl,ty,rfl,⟨ay,cy,rfl,hy⟩⟩,hb4⟩;have hz4:=hb4.size;have HT:=hJ (Bx.fresh w4 26 [.string (kBJ).elem,.string (kBJ).shape.row,.slice ay (kBJ).shape.dims.length cy]);have t0:=HT.out.cell 0 _ rfl;have t1:=HT.out.cell 1 _ rfl;have t2:=HT.out.cell 2 _ rfl;have HY:=hJ (hy.below ((Below.refl _ _).alloc (Nat.le_refl _) (.cells #[.string (kBJ).elem,.string (kBJ).shape.row,.slice ay (kBJ).shape.dims.length cy] 26)));have HB5:=hJ (hb4.alloc hz4 (.cells #[.string (kBJ).elem,.string (kBJ).shape.row,.slice ay (kBJ).shape.dims.length cy] 26));have HOld:=HOwn;replace HBX:=hJ (HBX.out.below HB5.out HBX.out.lt);replace HOwn:=hJ (HOwn.out.below HB5.out);replace HRs:=hJ (HRs.out.below HB5.out HRs.out.lt);replace HBl:=hJ (HBl.out.trans (HB5.out.mono HBl.out.size));clear hb4 hy HC;have z0:=HRs.out.cell 0 _ rfl;have z1:=HRs.out.cell 1 _ rfl;have z2:=HRs.out.cell 2 _ rfl;have z3:=HRs.out.cell 3 _ rfl;have z4:=HRs.out.cell 4 _ rfl;have f0:=HRs.out.fz 0;have f1:=HRs.out.fz 1;have f2:=HRs.out.fz 2;have f3:=HRs.out.fz 3;have f4:=HRs.out.fz 4;have hl0:=HRs.out.lt;have HZz:=hJ (((((HRs.out.set 0 (.slice none 0 0)).set 1 (.string ⟨#[]⟩)).set 2 (.string ⟨#[]⟩)).set 3 (.slice none 0 0)).set 4 (.slice none 0 0));have s0:=HZz.out.cell 0 _ rfl;have s1:=HZz.out.cell 1 _ rfl;have s2:=HZz.out.cell 2 _ rfl;have s3:=HZz.out.cell 3 _ rfl;have s4:=HZz.out.cell 4 _ rfl
         go_upto_region 10 with fail
         (try simp only []);repeat (first | go_values | go_skip | go_guarded | go_step | go_upon)
         refine bodyPost_ret (v:=.tuple #[.agg #[.slice none 0 0,.string ⟨#[]⟩,.string ⟨#[]⟩,.slice none 0 0,.slice none 0 0],.int .i64 6]) (by simp [results,results25,go_sem,s0,s1,s2,s3,s4,hl0]) rfl ?_;have HFr:Hid (∀ W,RSch.rd (fun k=>w.heap.size≤k) W [.slice none 0 0,.string ⟨#[]⟩,.string ⟨#[]⟩,.slice none 0 0,.slice none 0 0] (optS res)):=hJ (fun W=>by rw [HF.out];exact ⟨_,_,_,rfl,⟨none,0,rfl,Sl.empty RTyp _ _⟩,⟨none,0,rfl,Sl.empty RLin _ _⟩,⟨none,0,rfl,Sl.empty RLin _ _⟩⟩);exact ⟨⟨_,by rw [HF.out];rfl,HFr.out _⟩,((((HBl.out.setCell (Nat.le_refl _) _).setCell (Nat.le_refl _) _).setCell (Nat.le_refl _) _).setCell (Nat.le_refl _) _).setCell (Nat.le_refl _) _⟩
       | some t =>
         have HC:=hJ (kHD hrx (by omega) wr2);have hvt:=(kDJ hrx).1;replace HRun:Hid ((if b2 && r2.toList.isEmpty then none else goSR gk r2 (ps++[t]))=tot):=hJ (by rw [← HRun.out,hrx]);clear hrx
         go_wp2_with fail
         refine HC.out.mono ?_;rintro e w4 ⟨⟨ds,rfl,ty,rfl,⟨ay,cy,rfl,hy⟩⟩,hb4⟩;have hz4:=hb4.size;have HT:=hJ (Bx.fresh w4 26 [.string (t).elem,.string (t).shape.row,.slice ay (t).shape.dims.length cy]);have t0:=HT.out.cell 0 _ rfl;have t1:=HT.out.cell 1 _ rfl;have t2:=HT.out.cell 2 _ rfl;have HY:=hJ (hy.below ((Below.refl _ _).alloc (Nat.le_refl _) (.cells #[.string (t).elem,.string (t).shape.row,.slice ay (t).shape.dims.length cy] 26)));have HB5:=hJ (hb4.alloc hz4 (.cells #[.string (t).elem,.string (t).shape.row,.slice ay (t).shape.dims.length cy] 26));have HOld:=HOwn;replace HBX:=hJ (HBX.out.below HB5.out HBX.out.lt);replace HOwn:=hJ (HOwn.out.below HB5.out);replace HRs:=hJ (HRs.out.below HB5.out HRs.out.lt);replace HBl:=hJ (HBl.out.trans (HB5.out.mono HBl.out.size));clear hb4 hy HC;by_cases hbe:(b2 && r2.toList.isEmpty)=true
         · have HF:Hid (res=none):=hJ (HR2.out (by rw [← HRun.out,if_pos hbe]))
           rw [Bool.and_eq_true] at hbe;obtain ⟨hbe1,hbe2⟩:=hbe;subst hbe1;clear HRun;have z0:=HRs.out.cell 0 _ rfl;have z1:=HRs.out.cell 1 _ rfl;have z2:=HRs.out.cell 2 _ rfl;have z3:=HRs.out.cell 3 _ rfl;have z4:=HRs.out.cell 4 _ rfl;have f0:=HRs.out.fz 0;have f1:=HRs.out.fz 1;have f2:=HRs.out.fz 2;have f3:=HRs.out.fz 3;have f4:=HRs.out.fz 4;have hl0:=HRs.out.lt;have HZz:=hJ (((((HRs.out.set 0 (.slice none 0 0)).set 1 (.string ⟨#[]⟩)).set 2 (.string ⟨#[]⟩)).set 3 (.slice none 0 0)).set 4 (.slice none 0 0));have s0:=HZz.out.cell 0 _ rfl;have s1:=HZz.out.cell 1 _ rfl;have s2:=HZz.out.cell 2 _ rfl;have s3:=HZz.out.cell 3 _ rfl;have s4:=HZz.out.cell 4 _ rfl
           go_upto_region 10 with fail
           (try simp only []);repeat (first | go_values | go_skip | go_guarded | go_step | go_upon)
           refine bodyPost_ret (v:=.tuple #[.agg #[.slice none 0 0,.string ⟨#[]⟩,.string ⟨#[]⟩,.slice none 0 0,.slice none 0 0],.int .i64 6]) (by simp [results,results25,go_sem,s0,s1,s2,s3,s4,hl0]) rfl ?_;have HFr:Hid (∀ W,RSch.rd (fun k=>w.heap.size≤k) W [.slice none 0 0,.string ⟨#[]⟩,.string ⟨#[]⟩,.slice none 0 0,.slice none 0 0] (optS res)):=hJ (fun W=>by rw [HF.out];exact ⟨_,_,_,rfl,⟨none,0,rfl,Sl.empty RTyp _ _⟩,⟨none,0,rfl,Sl.empty RLin _ _⟩,⟨none,0,rfl,Sl.empty RLin _ _⟩⟩);exact ⟨⟨_,by rw [HF.out];rfl,HFr.out _⟩,((((HBl.out.setCell (Nat.le_refl _) _).setCell (Nat.le_refl _) _).setCell (Nat.le_refl _) _).setCell (Nat.le_refl _) _).setCell (Nat.le_refl _) _⟩
         · have HNx:Hid (goSR gk r2 (ps++[t])=tot):=hJ (by rw [← HRun.out,if_neg hbe])
           have v0:=HBX.out.cell 0 _ rfl;have fv0:=HBX.out.fz 0;clear HRun;cases b2 with
           | false =>
             clear hbe
             go_wp2_with (at_builtin;refine kAZ kG4 rfl _ _ rfl W.heap.size _ _ rfl (HOwn.out.alloc _) _ t [.string t.elem,.string t.shape.row,.slice ay t.shape.dims.length cy] rfl ⟨_,rfl,ay,cy,rfl,(HY.out.below ((Below.refl _ _).alloc (Nat.le_refl _) _)).mono (fun q hq _=>⟨by omega,fun e=>by have:=(HOld.out.block e).2;omega⟩)⟩ (kA2 26 (by (simp only [kAL,kAH,Array.getElem?_push,Array.size_push];simp))) (by omega) (by unfold maxLen;omega) (by simp;omega) ?_;intro v9 w9 hown9 hb9 hk9;obtain ⟨a9,m9,c9,rfl⟩:=hown9.shape;have HX9:=hJ ((HBX.out.alloc _).kp hk9 (HOwn.out.ne (by omega)));have HR9:=hJ ((HRs.out.alloc _).kp hk9 (HOwn.out.ne (by omega)));have z9:=HX9.out.cell 0 _ rfl;have f9:=HX9.out.fz 0;have hz9:=hb9.size)
             go_roundg gk
             case measure=>have:=HSh.out;omega
             case rel=>exact ⟨r2,ps++[t],a9,m9,c9,rfl,by have:=HSh.out;omega,by have:=HSh.out;rw [List.length_append];show ps.length+1+_≤_;omega,by have:=hz9;simp at this ⊢;omega,HNx,hJ (fun d hd=>(List.mem_append.mp hd).elim (HV.out d) (fun q=>by rw [List.mem_singleton.mp q];exact hvt)),hJ (HX9.out.set 0 _),hJ (hown9.set _ (fun q hq=>by show q≠g;omega) (by show g<_;omega)),hJ (HR9.out.other (by show g≠_;omega)),hJ (((HBl.out.alloc HBl.out.size _).trans (hb9.mono (by omega))).setCell (by show _≤g;omega) _)⟩
           | true =>
             have hbe:r2.toList.isEmpty=false:=by simpa using hbe
             go_wp2_with (at_builtin;refine kAZ kG4 rfl _ _ rfl W.heap.size _ _ rfl (HOwn.out.alloc _) _ t [.string t.elem,.string t.shape.row,.slice ay t.shape.dims.length cy] rfl ⟨_,rfl,ay,cy,rfl,(HY.out.below ((Below.refl _ _).alloc (Nat.le_refl _) _)).mono (fun q hq _=>⟨by omega,fun e=>by have:=(HOld.out.block e).2;omega⟩)⟩ (kA2 26 (by (simp only [kAL,kAH,Array.getElem?_push,Array.size_push];simp))) (by omega) (by unfold maxLen;omega) (by simp;omega) ?_;intro v9 w9 hown9 hb9 hk9;obtain ⟨a9,m9,c9,rfl⟩:=hown9.shape;have HX9:=hJ ((HBX.out.alloc _).kp hk9 (HOwn.out.ne (by omega)));have HR9:=hJ ((HRs.out.alloc _).kp hk9 (HOwn.out.ne (by omega)));have z9:=HX9.out.cell 0 _ rfl;have f9:=HX9.out.fz 0;have hz9:=hb9.size)
             go_roundg gk
             case measure=>have:=HSh.out;omega
             case rel=>exact ⟨r2,ps++[t],a9,m9,c9,rfl,by have:=HSh.out;omega,by have:=HSh.out;rw [List.length_append];show ps.length+1+_≤_;omega,by have:=hz9;simp at this ⊢;omega,HNx,hJ (fun d hd=>(List.mem_append.mp hd).elim (HV.out d) (fun q=>by rw [List.mem_singleton.mp q];exact hvt)),hJ (HX9.out.set 0 _),hJ (hown9.set _ (fun q hq=>by show q≠g;omega) (by show g<_;omega)),hJ (HR9.out.other (by show g≠_;omega)),hJ (((HBl.out.alloc HBl.out.size _).trans (hb9.mono (by omega))).setCell (by show _≤g;omega) _)⟩
   case rest =>
    obtain ⟨ps,pa,vm,pc,B,hgB,hBW,hpl,HPs,HVp,HBX,HOwn,HRs,HBl⟩:=hcut;generalize hwc:wc=W2 at *;clear hwc;replace HR:Hid (res=match kBS rt with | none=>none | some t=>match goWR (s.size+2) wh sm [] with | none=>none | some ls=>kIK s ⟨ps,t,ls⟩):=hJ (by rw [HR.out,HPs.out]);obtain ⟨a9,c9,e9,hsl⟩:=HOwn.out.sl;rw [Value.slice.injEq] at e9;obtain ⟨rfl,rfl,rfl⟩:=e9;have HSp:=hJ (hsl.mono (S':=fun q=>g<q) (fun q hq _=>by rcases hq with q | q <;> omega));clear HOwn hsl HPs HTo
    go_wp2_with fail
    refine (HC3.out _).mono ?_;rintro e W3 ⟨rfl,hb3⟩;replace HBX:=hJ (HBX.out.below hb3 HBX.out.lt);replace HRs:=hJ (HRs.out.below hb3 HRs.out.lt);replace HBl:=hJ (HBl.out.trans (hb3.mono HBl.out.size));replace HSp:=hJ (HSp.out.below hb3);have hg3:=HBX.out.lt;have hz3:=HBl.out.size;clear HC3 hb3;cases hrt:kBS rt with
    | none =>
      have HC:=hJ (fun W=>kHE hrt hrz W);have HF:Hid (res=none):=hJ (by rw [HR.out,hrt]);clear HR hrt
      go_wp2_with fail
      refine (HC.out _).mono ?_;rintro e w4 ⟨⟨ds,rfl,ty,rfl,⟨ay,cy,rfl,hy⟩⟩,hb4⟩;have hz4:=hb4.size;have HT:=hJ (Bx.fresh w4 26 [.string (kBJ).elem,.string (kBJ).shape.row,.slice ay (kBJ).shape.dims.length cy]);have t0:=HT.out.cell 0 _ rfl;have t1:=HT.out.cell 1 _ rfl;have t2:=HT.out.cell 2 _ rfl;have HY:=hJ (hy.below ((Below.refl _ _).alloc (Nat.le_refl _) (.cells #[.string (kBJ).elem,.string (kBJ).shape.row,.slice ay (kBJ).shape.dims.length cy] 26)));have HB5:=hJ (hb4.alloc hz4 (.cells #[.string (kBJ).elem,.string (kBJ).shape.row,.slice ay (kBJ).shape.dims.length cy] 26));replace HBX:=hJ (HBX.out.below HB5.out HBX.out.lt);replace HRs:=hJ (HRs.out.below HB5.out HRs.out.lt);replace HBl:=hJ (HBl.out.trans (HB5.out.mono HBl.out.size));replace HSp:=hJ (HSp.out.below HB5.out);clear hb4 hy HC;clear HY HSp HT t0 t1 t2;have z0:=HRs.out.cell 0 _ rfl;have z1:=HRs.out.cell 1 _ rfl;have z2:=HRs.out.cell 2 _ rfl;have z3:=HRs.out.cell 3 _ rfl;have z4:=HRs.out.cell 4 _ rfl;have f0:=HRs.out.fz 0;have f1:=HRs.out.fz 1;have f2:=HRs.out.fz 2;have f3:=HRs.out.fz 3;have f4:=HRs.out.fz 4;have hl0:=HRs.out.lt;have HZz:=hJ (((((HRs.out.set 0 (.slice none 0 0)).set 1 (.string ⟨#[]⟩)).set 2 (.string ⟨#[]⟩)).set 3 (.slice none 0 0)).set 4 (.slice none 0 0));have s0:=HZz.out.cell 0 _ rfl;have s1:=HZz.out.cell 1 _ rfl;have s2:=HZz.out.cell 2 _ rfl;have s3:=HZz.out.cell 3 _ rfl;have s4:=HZz.out.cell 4 _ rfl
      go_upto_region 16 with fail
      (try simp only []);repeat (first | go_values | go_skip | go_guarded | go_step | go_upon)
      refine bodyPost_ret (v:=.tuple #[.agg #[.slice none 0 0,.string ⟨#[]⟩,.string ⟨#[]⟩,.slice none 0 0,.slice none 0 0],.int .i64 6]) (by simp [results,results25,go_sem,s0,s1,s2,s3,s4,hl0]) rfl ?_;have HFr:Hid (∀ W,RSch.rd (fun k=>w.heap.size≤k) W [.slice none 0 0,.string ⟨#[]⟩,.string ⟨#[]⟩,.slice none 0 0,.slice none 0 0] (optS res)):=hJ (fun W=>by rw [HF.out];exact ⟨_,_,_,rfl,⟨none,0,rfl,Sl.empty RTyp _ _⟩,⟨none,0,rfl,Sl.empty RLin _ _⟩,⟨none,0,rfl,Sl.empty RLin _ _⟩⟩);exact ⟨⟨_,by rw [HF.out];rfl,HFr.out _⟩,((((HBl.out.setCell (Nat.le_refl _) _).setCell (Nat.le_refl _) _).setCell (Nat.le_refl _) _).setCell (Nat.le_refl _) _).setCell (Nat.le_refl _) _⟩
    | some t =>
      have HC:=hJ (fun W=>kHD hrt hrz W);replace HR:Hid (res=match goWR (s.size+2) wh sm [] with | none=>none | some ls=>kIK s ⟨ps,t,ls⟩):=hJ (by rw [HR.out,hrt]);have hvt:=(kDJ hrt).1;clear hrt
      go_wp2_with fail
      refine (HC.out _).mono ?_;rintro e w4 ⟨⟨ds,rfl,ty,rfl,⟨ay,cy,rfl,hy⟩⟩,hb4⟩;have hz4:=hb4.size;have HT:=hJ (Bx.fresh w4 26 [.string (t).elem,.string (t).shape.row,.slice ay (t).shape.dims.length cy]);have t0:=HT.out.cell 0 _ rfl;have t1:=HT.out.cell 1 _ rfl;have t2:=HT.out.cell 2 _ rfl;have HY:=hJ (hy.below ((Below.refl _ _).alloc (Nat.le_refl _) (.cells #[.string (t).elem,.string (t).shape.row,.slice ay (t).shape.dims.length cy] 26)));have HB5:=hJ (hb4.alloc hz4 (.cells #[.string (t).elem,.string (t).shape.row,.slice ay (t).shape.dims.length cy] 26));replace HBX:=hJ (HBX.out.below HB5.out HBX.out.lt);replace HRs:=hJ (HRs.out.below HB5.out HRs.out.lt);replace HBl:=hJ (HBl.out.trans (HB5.out.mono HBl.out.size));replace HSp:=hJ (HSp.out.below HB5.out);clear hb4 hy HC;have v1:=HBX.out.cell 1 _ rfl;have v2:=HBX.out.cell 2 _ rfl;have v3:=HBX.out.cell 3 _ rfl;have f1:=HBX.out.fz 1;have f2:=HBX.out.fz 2;have f3:=HBX.out.fz 3;have hlo:=HBX.out.lt
      go_upto_block 2 with fail
      have hne:g≠w.heap.size:=by omega
      replace HBX:=hJ (((HBX.out.set 1 (.string t.elem)).set 2 (.string t.shape.row)).set 3 (.slice ay t.shape.dims.length cy));replace HRs:=hJ (((HRs.out.other (a:=⟨g,1,none⟩) (u:=.string t.elem) hne).other (a:=⟨g,2,none⟩) (u:=.string t.shape.row) hne).other (a:=⟨g,3,none⟩) (u:=.slice ay t.shape.dims.length cy) hne);replace HBl:=hJ (((HBl.out.setCell (show w.heap.size≤(⟨g,1,none⟩:Addr).block from Nat.le_of_lt hgw) (.string t.elem)).setCell (show w.heap.size≤(⟨g,2,none⟩:Addr).block from Nat.le_of_lt hgw) (.string t.shape.row)).setCell (show w.heap.size≤(⟨g,3,none⟩:Addr).block from Nat.le_of_lt hgw) (.slice ay t.shape.dims.length cy));replace HY:=hJ (((HY.out.frame (w':=World.setCell _ ⟨g,1,none⟩ (.string t.elem)) (fun k hk _=>kAB (by show g≠k;omega))).frame (w':=World.setCell _ ⟨g,2,none⟩ (.string t.shape.row)) (fun k hk _=>kAB (by show g≠k;omega))).frame (w':=World.setCell _ ⟨g,3,none⟩ (.slice ay t.shape.dims.length cy)) (fun k hk _=>kAB (by show g≠k;omega)));replace HSp:=hJ (((HSp.out.frame (w':=World.setCell _ ⟨g,1,none⟩ (.string t.elem)) (fun k hk _=>kAB (by show g≠k;omega))).frame (w':=World.setCell _ ⟨g,2,none⟩ (.string t.shape.row)) (fun k hk _=>kAB (by show g≠k;omega))).frame (w':=World.setCell _ ⟨g,3,none⟩ (.slice ay t.shape.dims.length cy)) (fun k hk _=>kAB (by show g≠k;omega)));replace HY:=hJ (HY.out.mono (S':=fun q=>g<q) (fun q hq _=>by omega));clear t0 t1 t2 HT v1 v2 v3 f1 f2 f3 HB5 hlo;generalize (((w4.alloc (.cells #[.string t.elem,.string t.shape.row,.slice ay t.shape.dims.length cy] 26)).setCell ⟨g,1,none⟩ (.string t.elem)).setCell ⟨g,2,none⟩ (.string t.shape.row)).setCell ⟨g,3,none⟩ (.slice ay t.shape.dims.length cy)=W6 at *;obtain ⟨tot2,hto⟩:∃ tot,tot=goWR (s.size+2) wh sm []:=⟨_,rfl⟩
      rw [← hto] at HR;have HTo:=hJ hto.symm;clear hto
      go_cut [15,16] (fun v15 v16 W=>∃ (ls:List Lin) (qa:Option Addr) (qc:Nat),Hid (tot2=some ls)∧Hid (∀ d ∈ ls,kAC d=true)∧Hid (Bx W g 29 [.slice pa ps.length pc,.string t.elem,.string t.shape.row,.slice ay t.shape.dims.length cy,.slice qa ls.length qc])∧Hid (Sl RTyp (fun q=>g<q) W pa ps.length pc ps)∧Hid (Sl RLin (fun q=>g<q) W ay t.shape.dims.length cy t.shape.dims)∧Hid (Sl RLin (fun q=>g<q) W qa ls.length qc ls)∧Hid (Bx W w.heap.size 29 [.slice none 0 0,.string ⟨#[]⟩,.string ⟨#[]⟩,.slice none 0 0,.slice none 0 0])∧Hid (Below w.heap.size w W))
      case first =>
       have HR2:Hid (tot2=none→res=none):=hJ (fun h=>by rw [HR.out,h]);have hgW6:=HBX.out.lt;replace HSp:=hJ (HSp.out.mono (S':=fun q=>g<q∧q<W6.heap.size) (fun q hq hl=>⟨hq,hl⟩));replace HY:=hJ (HY.out.mono (S':=fun q=>g<q∧q<W6.heap.size) (fun q hq hl=>⟨hq,hl⟩))
       go_wp2_with fail
       go_loopg [15,16] (s.size+2) (fun gk v15 v16 wr=>∃ (r:Str) (b:Bool) (ls:List Lin) (qa:Option Addr) (qm qc:Nat),v15= .string r∧v16= .bool b∧0<gk∧(b=true→r.size+1<gk∧ls.length+r.size≤s.size+1)∧r.size≤s.size∧ls.length≤s.size+2∧W6.heap.size≤wr.heap.size∧Hid (goWR gk r b ls=tot2)∧Hid (∀ d ∈ ls,kAC d=true)∧Hid (Bx wr g 29 [.slice pa ps.length pc,.string t.elem,.string t.shape.row,.slice ay t.shape.dims.length cy,.slice qa qm qc])∧Hid (Own RLin 45 (fun q=>W6.heap.size≤q) wr W6.heap.size (.slice qa qm qc) ls)∧Hid (Sl RTyp (fun q=>g<q∧q<W6.heap.size) wr pa ps.length pc ps)∧Hid (Sl RLin (fun q=>g<q∧q<W6.heap.size) wr ay t.shape.dims.length cy t.shape.dims)∧Hid (Bx wr w.heap.size 29 [.slice none 0 0,.string ⟨#[]⟩,.string ⟨#[]⟩,.slice none 0 0,.slice none 0 0])∧Hid (Below w.heap.size w wr))
       case atStart=>exact ⟨wh,sm,[],none,0,0,rfl,rfl,by omega,fun _=>⟨by omega,by show 0+_≤_;omega⟩,hwz,Nat.zero_le _,Nat.le_refl _,HTo,hJ (fun t ht=>by cases ht),HBX,hJ (Own.nil _ _ _ _ _),HSp,HY,HRs,HBl⟩
       case round =>
        clear HBX HRs HBl HTo HSp HY;obtain ⟨r,b,ls,qa,qm,qc,rfl,rfl,hg0,hbr,hrs2,hll,hwz2,HRun,HV,HBX,HOwn,HSp,HY,HRs,HBl⟩:=hrel;obtain ⟨gk,rfl⟩:∃ g,gk=g+1:=⟨gk - 1,by omega⟩
        cases b with
        | false =>
          have HTot:Hid (tot2=some ls):=hJ (by rw [← HRun.out,goWR_false]);obtain ⟨a9,c9,e9,hsl⟩:=HOwn.out.sl;rw [Value.slice.injEq] at e9;obtain ⟨rfl,rfl,rfl⟩:=e9;clear hbr
          go_wp2_with fail
          go_meet
          exact ⟨ls,qa,qc,HTot,HV,HBX,hJ (HSp.out.mono (fun q hq _=>hq.1)),hJ (HY.out.mono (fun q hq _=>hq.1)),hJ (hsl.mono (fun q hq _=>by rcases hq with q | q <;> omega)),HRs,HBl⟩
        | true =>
          obtain ⟨hb1,hb2⟩:=hbr rfl;clear hbr;replace HRun:Hid ((if kEU (kA5 (kCD (cutL r comS)) (cutL r comS))=0 then goWR gk (cutR r comS) (cutB r comS) (ls++[kET (kA5 (kCD (cutL r comS)) (cutL r comS))]) else none)=tot2):=hJ (by rw [← HRun.out,goWR_true]);have HCc:=hJ (kJU r comS (by omega) (by decide) (by decide) wr);have hlz:=kKC r comS;obtain ⟨q1z,q2z,q3z⟩:=kKB r comS;have hc2:comS.size=2:=rfl
          go_wp2_with fail
          refine HCc.out.mono ?_;rintro e wr2 ⟨rfl,hbc⟩;replace HBX:=hJ (HBX.out.below hbc HBX.out.lt);replace HOwn:=hJ (HOwn.out.below hbc);replace HRs:=hJ (HRs.out.below hbc HRs.out.lt);replace HBl:=hJ (HBl.out.trans (hbc.mono HBl.out.size));replace HSp:=hJ (HSp.out.below hbc);replace HY:=hJ (HY.out.below hbc);have hzc:=hbc.size;clear HCc hbc;generalize cutL r comS=x at *;obtain ⟨r2,hr2⟩:∃ r2,r2=cutR r comS:=⟨_,rfl⟩
          obtain ⟨b2,hb3⟩:∃ b2,b2=cutB r comS:=⟨_,rfl⟩
          rw [hc2,← hr2,← hb3] at q2z;rw [← hr2] at q1z;rw [← hr2,← hb3] at HRun ⊢;clear hr2 hb3 q3z;have HSh:Hid (0<gk∧(b2=true→r2.size+1<gk∧(ls.length+1)+r2.size≤s.size+1)∧r2.size≤s.size∧ls.length+1≤s.size+2):=hJ ⟨by omega,fun h=>by have:=q2z h;omega,by omega,by omega⟩;clear q1z q2z;have HC:=hJ (ref04_Parse x (by omega) wr2);have HVl:=hJ (lossX_sz (kA5 (kCD x) x));generalize kEU (kA5 (kCD x) x)=er at *;generalize kET (kA5 (kCD x) x)=y at *
          go_wp2_with fail
          refine HC.out.mono ?_;rintro e w4 ⟨⟨ds,rfl,ty,rfl,aw,cw,rfl,hy⟩,hb4⟩;have HT:=hJ (Bx.fresh w4 45 [.int .i64 y.const,.slice aw y.terms.length cw]);have t0:=HT.out.cell 0 _ rfl;have t1:=HT.out.cell 1 _ rfl;have hz4:=hb4.size;have HYy:Hid (Sl kBE (fun k=>wr2.heap.size≤k) (w4.alloc (.cells #[.int .i64 y.const,.slice aw y.terms.length cw] 45)) aw y.terms.length cw y.terms):=hJ (hy.below ((Below.refl _ _).alloc (Nat.le_refl _) _));have HB5:Hid (Below wr2.heap.size wr2 (w4.alloc (.cells #[.int .i64 y.const,.slice aw y.terms.length cw] 45))):=hJ (hb4.alloc hz4 _);have HOld:=HOwn;replace HBX:=hJ (HBX.out.below HB5.out HBX.out.lt);replace HOwn:=hJ (HOwn.out.below HB5.out);replace HSp:=hJ (HSp.out.below HB5.out);replace HY:=hJ (HY.out.below HB5.out);replace HRs:=hJ (HRs.out.below HB5.out HRs.out.lt);replace HBl:=hJ (HBl.out.trans (HB5.out.mono HBl.out.size));have v4:=HBX.out.cell 4 _ rfl;have fv4:=HBX.out.fz 4;clear hb4 hy HC;by_cases her:er=0
          · subst her
            have HNx:Hid (goWR gk r2 b2 (ls++[y])=tot2):=hJ (by rw [← HRun.out,if_pos rfl]);have hvy:Hid (kAC y=true):=hJ (HVl.out rfl);clear HRun HVl
            go_wp2_with (at_builtin;refine kAZ kCA rfl _ _ rfl W6.heap.size _ _ rfl (HOwn.out.alloc _) _ y [.int .i64 y.const,.slice aw y.terms.length cw] rfl ⟨_,rfl,aw,cw,rfl,(HYy.out.below ((Below.refl _ _).alloc (Nat.le_refl _) _)).mono (fun q hq _=>⟨by omega,fun e=>by have:=(HOld.out.block e).2;omega⟩)⟩ (kA2 45 (by (simp only [kAL,kAH,Array.getElem?_push,Array.size_push];simp))) (by omega) (by unfold maxLen;omega) (by simp;omega) ?_;intro v9 w9 hown9 hb9 hk9;obtain ⟨a9,m9,c9,rfl⟩:=hown9.shape;have HX9:=hJ ((HBX.out.alloc _).kp hk9 (HOwn.out.ne (by omega)));have HR9:=hJ ((HRs.out.alloc _).kp hk9 (HOwn.out.ne (by omega)));have HS9:=hJ ((HSp.out.below ((Below.refl _ _).alloc (Nat.le_refl _) _)).frame (w':=w9) (fun q hq hl=>hk9.block q hl (HOwn.out.ne hq.2)));have HY9:=hJ ((HY.out.below ((Below.refl _ _).alloc (Nat.le_refl _) _)).frame (w':=w9) (fun q hq hl=>hk9.block q hl (HOwn.out.ne hq.2)));have z9:=HX9.out.cell 4 _ rfl;have f9:=HX9.out.fz 4;have hz9:=hb9.size)
            go_roundg gk
            case measure=>have:=HSh.out.1;omega
            case rel=>exact ⟨r2,b2,ls++[y],a9,m9,c9,rfl,rfl,HSh.out.1,fun h=>by rw [List.length_append];exact HSh.out.2.1 h,HSh.out.2.2.1,by rw [List.length_append];exact HSh.out.2.2.2,by have:=hz9;simp at this ⊢;omega,HNx,hJ (fun d hd=>(List.mem_append.mp hd).elim (HV.out d) (fun q=>by rw [List.mem_singleton.mp q];exact hvy.out)),hJ (HX9.out.set 4 _),hJ (hown9.set _ (fun q hq=>by show q≠g;omega) (by show g<_;omega)),hJ (HS9.out.frame (fun q hq _=>kAB (by show g≠q;omega))),hJ (HY9.out.frame (fun q hq _=>kAB (by show g≠q;omega))),hJ (HR9.out.other (by show g≠_;omega)),hJ (((HBl.out.alloc HBl.out.size _).trans (hb9.mono (by omega))).setCell (by show _≤g;omega) _)⟩
          · have HF:Hid (res=none):=hJ (HR2.out (by rw [← HRun.out,if_neg her]))
            have n9:(er != 0)=true:=bne_iff_ne.2 her;clear HRun her;have z0:=HRs.out.cell 0 _ rfl;have z1:=HRs.out.cell 1 _ rfl;have z2:=HRs.out.cell 2 _ rfl;have z3:=HRs.out.cell 3 _ rfl;have z4:=HRs.out.cell 4 _ rfl;have f0:=HRs.out.fz 0;have f1:=HRs.out.fz 1;have f2:=HRs.out.fz 2;have f3:=HRs.out.fz 3;have f4:=HRs.out.fz 4;have hl0:=HRs.out.lt;have HZz:=hJ (((((HRs.out.set 0 (.slice none 0 0)).set 1 (.string ⟨#[]⟩)).set 2 (.string ⟨#[]⟩)).set 3 (.slice none 0 0)).set 4 (.slice none 0 0));have s0:=HZz.out.cell 0 _ rfl;have s1:=HZz.out.cell 1 _ rfl;have s2:=HZz.out.cell 2 _ rfl;have s3:=HZz.out.cell 3 _ rfl;have s4:=HZz.out.cell 4 _ rfl
            go_upto_region 22 with fail
            (try simp only []);repeat (first | go_values | go_skip | go_guarded | go_step | go_upon)
            refine bodyPost_ret (v:=.tuple #[.agg #[.slice none 0 0,.string ⟨#[]⟩,.string ⟨#[]⟩,.slice none 0 0,.slice none 0 0],.int .i64 6]) (by simp [results,results25,go_sem,s0,s1,s2,s3,s4,hl0]) rfl ?_;have HFr:Hid (∀ W,RSch.rd (fun k=>w.heap.size≤k) W [.slice none 0 0,.string ⟨#[]⟩,.string ⟨#[]⟩,.slice none 0 0,.slice none 0 0] (optS res)):=hJ (fun W=>by rw [HF.out];exact ⟨_,_,_,rfl,⟨none,0,rfl,Sl.empty RTyp _ _⟩,⟨none,0,rfl,Sl.empty RLin _ _⟩,⟨none,0,rfl,Sl.empty RLin _ _⟩⟩);exact ⟨⟨_,by rw [HF.out];rfl,HFr.out _⟩,((((HBl.out.setCell (Nat.le_refl _) _).setCell (Nat.le_refl _) _).setCell (Nat.le_refl _) _).setCell (Nat.le_refl _) _).setCell (Nat.le_refl _) _⟩
      case rest =>
       obtain ⟨ls,qa,qc,HLs,HVl,HBX,HSp,HY,HQ,HRs,HBl⟩:=hcut;generalize hwc:wc=W8 at *;clear hwc;replace HR:Hid (res=kIK s ⟨ps,t,ls⟩):=hJ (by rw [HR.out,HLs.out]);have HR3:Hid (res=if kAI ⟨ps,t,ls⟩ && (kBO ⟨ps,t,ls⟩).toList==s.toList then some ⟨ps,t,ls⟩ else none):=hJ HR.out;have hgW8:=HBX.out.lt;have HRd:Hid (RSch.rd (fun q=>g<q) W8 [.slice pa ps.length pc,.string t.elem,.string t.shape.row,.slice ay t.shape.dims.length cy,.slice qa ls.length qc] ⟨ps,t,ls⟩):=hJ ⟨_,_,_,rfl,⟨pa,pc,rfl,HSp.out⟩,⟨ay,cy,rfl,HY.out⟩,⟨qa,qc,rfl,HQ.out⟩⟩;have HC:=hJ (kF7 HRd.out ⟨fun t ht=>typT_sz (HVp.out t ht),typT_sz hvt,fun d hd=>kHG (HVl.out d hd)⟩ (by show ps.length≤_;omega));have v0:=HBX.out.cell 0 _ rfl;have v1:=HBX.out.cell 1 _ rfl;have v2:=HBX.out.cell 2 _ rfl;have v3:=HBX.out.cell 3 _ rfl;have v4:=HBX.out.cell 4 _ rfl;clear HSp HY HQ HR;cases hv:kAI ⟨ps,t,ls⟩ with
       | false =>
         have HF:Hid (res=none):=hJ (by rw [HR3.out,hv];rfl);have HVe:Hid (kCF (kAI ⟨ps,t,ls⟩)=1):=hJ (by rw [hv];rfl);rw [HVe.out] at HC;generalize kBM ⟨ps,t,ls⟩=o at *;clear HRd HR3
         go_wp2_with fail
         refine (HC.out).mono ?_;rintro e w1 ⟨rfl,hb⟩;replace HRs:=hJ (HRs.out.below hb HRs.out.lt);replace HBl:=hJ (HBl.out.trans (hb.mono HBl.out.size));have z0:=HRs.out.cell 0 _ rfl;have z1:=HRs.out.cell 1 _ rfl;have z2:=HRs.out.cell 2 _ rfl;have z3:=HRs.out.cell 3 _ rfl;have z4:=HRs.out.cell 4 _ rfl;have f0:=HRs.out.fz 0;have f1:=HRs.out.fz 1;have f2:=HRs.out.fz 2;have f3:=HRs.out.fz 3;have f4:=HRs.out.fz 4;have hl0:=HRs.out.lt;have HZz:=hJ (((((HRs.out.set 0 (.slice none 0 0)).set 1 (.string ⟨#[]⟩)).set 2 (.string ⟨#[]⟩)).set 3 (.slice none 0 0)).set 4 (.slice none 0 0));have s0:=HZz.out.cell 0 _ rfl;have s1:=HZz.out.cell 1 _ rfl;have s2:=HZz.out.cell 2 _ rfl;have s3:=HZz.out.cell 3 _ rfl;have s4:=HZz.out.cell 4 _ rfl
         go_upto_region 27 with fail
         (try simp only []);repeat (first | go_values | go_skip | go_guarded | go_step | go_upon)
         refine bodyPost_ret (v:=.tuple #[.agg #[.slice none 0 0,.string ⟨#[]⟩,.string ⟨#[]⟩,.slice none 0 0,.slice none 0 0],.int .i64 6]) (by simp [results,results25,go_sem,s0,s1,s2,s3,s4,hl0]) rfl ?_;have HFr:Hid (∀ W,RSch.rd (fun k=>w.heap.size≤k) W [.slice none 0 0,.string ⟨#[]⟩,.string ⟨#[]⟩,.slice none 0 0,.slice none 0 0] (optS res)):=hJ (fun W=>by rw [HF.out];exact ⟨_,_,_,rfl,⟨none,0,rfl,Sl.empty RTyp _ _⟩,⟨none,0,rfl,Sl.empty RLin _ _⟩,⟨none,0,rfl,Sl.empty RLin _ _⟩⟩);exact ⟨⟨_,by rw [HF.out];rfl,HFr.out _⟩,((((HBl.out.setCell (Nat.le_refl _) _).setCell (Nat.le_refl _) _).setCell (Nat.le_refl _) _).setCell (Nat.le_refl _) _).setCell (Nat.le_refl _) _⟩
       | true =>
         have HPe:Hid (kBM ⟨ps,t,ls⟩=kBO ⟨ps,t,ls⟩):=hJ (by unfold kBM;rw [if_pos hv]);have HVe:Hid (kCF (kAI ⟨ps,t,ls⟩)=0):=hJ (by rw [hv];rfl);rw [HVe.out,HPe.out] at HC;rw [hv] at HR3;generalize kBO ⟨ps,t,ls⟩=o at *
         go_wp2_with fail
         refine (HC.out).mono ?_;rintro e w2 ⟨rfl,hb⟩;have HB2:=hJ hb;replace v0:=(hb.cell (by show g<_;omega)).trans v0;replace v1:=(hb.cell (by show g<_;omega)).trans v1;replace v2:=(hb.cell (by show g<_;omega)).trans v2;replace v3:=(hb.cell (by show g<_;omega)).trans v3;replace v4:=(hb.cell (by show g<_;omega)).trans v4;replace HRs:=hJ (HRs.out.below HB2.out HRs.out.lt);replace HBl:=hJ (HBl.out.trans (HB2.out.mono HBl.out.size));cases ho:(o.toList==s.toList) with
         | false =>
           have HF:Hid (res=none):=hJ (by rw [HR3.out,ho];rfl);have z0:=HRs.out.cell 0 _ rfl;have z1:=HRs.out.cell 1 _ rfl;have z2:=HRs.out.cell 2 _ rfl;have z3:=HRs.out.cell 3 _ rfl;have z4:=HRs.out.cell 4 _ rfl;have f0:=HRs.out.fz 0;have f1:=HRs.out.fz 1;have f2:=HRs.out.fz 2;have f3:=HRs.out.fz 3;have f4:=HRs.out.fz 4;have hl0:=HRs.out.lt;have HZz:=hJ (((((HRs.out.set 0 (.slice none 0 0)).set 1 (.string ⟨#[]⟩)).set 2 (.string ⟨#[]⟩)).set 3 (.slice none 0 0)).set 4 (.slice none 0 0));have s0:=HZz.out.cell 0 _ rfl;have s1:=HZz.out.cell 1 _ rfl;have s2:=HZz.out.cell 2 _ rfl;have s3:=HZz.out.cell 3 _ rfl;have s4:=HZz.out.cell 4 _ rfl
           go_upto_region 27 with fail
           (try simp only []);repeat (first | go_values | go_skip | go_guarded | go_step | go_upon)
           refine bodyPost_ret (v:=.tuple #[.agg #[.slice none 0 0,.string ⟨#[]⟩,.string ⟨#[]⟩,.slice none 0 0,.slice none 0 0],.int .i64 6]) (by simp [results,results25,go_sem,s0,s1,s2,s3,s4,hl0]) rfl ?_;have HFr:Hid (∀ W,RSch.rd (fun k=>w.heap.size≤k) W [.slice none 0 0,.string ⟨#[]⟩,.string ⟨#[]⟩,.slice none 0 0,.slice none 0 0] (optS res)):=hJ (fun W=>by rw [HF.out];exact ⟨_,_,_,rfl,⟨none,0,rfl,Sl.empty RTyp _ _⟩,⟨none,0,rfl,Sl.empty RLin _ _⟩,⟨none,0,rfl,Sl.empty RLin _ _⟩⟩);exact ⟨⟨_,by rw [HF.out];rfl,HFr.out _⟩,((((HBl.out.setCell (Nat.le_refl _) _).setCell (Nat.le_refl _) _).setCell (Nat.le_refl _) _).setCell (Nat.le_refl _) _).setCell (Nat.le_refl _) _⟩
         | true =>
           have HF:Hid (res=some ⟨ps,t,ls⟩):=hJ (by rw [HR3.out,ho];rfl);have z0:=HRs.out.cell 0 _ rfl;have z1:=HRs.out.cell 1 _ rfl;have z2:=HRs.out.cell 2 _ rfl;have z3:=HRs.out.cell 3 _ rfl;have z4:=HRs.out.cell 4 _ rfl;have f0:=HRs.out.fz 0;have f1:=HRs.out.fz 1;have f2:=HRs.out.fz 2;have f3:=HRs.out.fz 3;have f4:=HRs.out.fz 4;have hl0:=HRs.out.lt
           go_upto_region 28 with fail
           (try simp only []);repeat (first | go_values | go_skip | go_guarded | go_step | go_upon)
           have HZz:=hJ (((((HRs.out.set 0 (.slice pa ps.length pc)).set 1 (.string t.elem)).set 2 (.string t.shape.row)).set 3 (.slice ay t.shape.dims.length cy)).set 4 (.slice qa ls.length qc));have s0:=HZz.out.cell 0 _ rfl;have s1:=HZz.out.cell 1 _ rfl;have s2:=HZz.out.cell 2 _ rfl;have s3:=HZz.out.cell 3 _ rfl;have s4:=HZz.out.cell 4 _ rfl;refine bodyPost_ret (v:=.tuple #[.agg #[.slice pa ps.length pc,.string t.elem,.string t.shape.row,.slice ay t.shape.dims.length cy,.slice qa ls.length qc],.int .i64 0]) (by simp [results,results25,go_sem,s0,s1,s2,s3,s4,hl0]) rfl ?_;have hfr:∀ (W:World) (j:Nat) (u:Value) (q:Nat),g<q→(W.setCell ⟨w.heap.size,j,none⟩ u).heap[q]? =W.heap[q]? :=fun W j u q hq=>kAB (by show w.heap.size≠q;omega)
           exact ⟨⟨_,by rw [HF.out];rfl,by rw [HF.out];exact RSch.mono (RSch.frame (RSch.frame (RSch.frame (RSch.frame (RSch.frame (RSch.below HRd.out HB2.out) (fun q hq _=>hfr _ 0 _ q hq)) (fun q hq _=>hfr _ 1 _ q hq)) (fun q hq _=>hfr _ 2 _ q hq)) (fun q hq _=>hfr _ 3 _ q hq)) (fun q hq _=>hfr _ 4 _ q hq)) (fun q hq _=>by show w.heap.size≤q;omega)⟩,((((HBl.out.setCell (Nat.le_refl _) _).setCell (Nat.le_refl _) _).setCell (Nat.le_refl _) _).setCell (Nat.le_refl _) _).setCell (Nat.le_refl _) _⟩
 · have HF:Hid (res=none):=hJ (by rw [HR.out,if_neg hok])
   clear HR;cases ok1:cutB s arrS with
   | false =>
     clear hok;have z0:=HRs.out.cell 0 _ rfl;have z1:=HRs.out.cell 1 _ rfl;have z2:=HRs.out.cell 2 _ rfl;have z3:=HRs.out.cell 3 _ rfl;have z4:=HRs.out.cell 4 _ rfl;have f0:=HRs.out.fz 0;have f1:=HRs.out.fz 1;have f2:=HRs.out.fz 2;have f3:=HRs.out.fz 3;have f4:=HRs.out.fz 4;have hl0:=HRs.out.lt;have HZz:=hJ (((((HRs.out.set 0 (.slice none 0 0)).set 1 (.string ⟨#[]⟩)).set 2 (.string ⟨#[]⟩)).set 3 (.slice none 0 0)).set 4 (.slice none 0 0));have s0:=HZz.out.cell 0 _ rfl;have s1:=HZz.out.cell 1 _ rfl;have s2:=HZz.out.cell 2 _ rfl;have s3:=HZz.out.cell 3 _ rfl;have s4:=HZz.out.cell 4 _ rfl
     go_upto_region 4 with fail
     (try simp only []);repeat (first | go_values | go_skip | go_guarded | go_step | go_upon)
     refine bodyPost_ret (v:=.tuple #[.agg #[.slice none 0 0,.string ⟨#[]⟩,.string ⟨#[]⟩,.slice none 0 0,.slice none 0 0],.int .i64 6]) (by simp [results,results25,go_sem,s0,s1,s2,s3,s4,hl0]) rfl ?_;have HFr:Hid (∀ W,RSch.rd (fun k=>w.heap.size≤k) W [.slice none 0 0,.string ⟨#[]⟩,.string ⟨#[]⟩,.slice none 0 0,.slice none 0 0] (optS res)):=hJ (fun W=>by rw [HF.out];exact ⟨_,_,_,rfl,⟨none,0,rfl,Sl.empty RTyp _ _⟩,⟨none,0,rfl,Sl.empty RLin _ _⟩,⟨none,0,rfl,Sl.empty RLin _ _⟩⟩);exact ⟨⟨_,by rw [HF.out];rfl,HFr.out _⟩,((((HBl.out.setCell (Nat.le_refl _) _).setCell (Nat.le_refl _) _).setCell (Nat.le_refl _) _).setCell (Nat.le_refl _) _).setCell (Nat.le_refl _) _⟩
   | true =>
     by_cases ok2:0<(cutL s arrS).size
     · have hne:(cutL s arrS).toList.isEmpty=false:=kDG ok2
       have g0:=kBP (cutL s arrS) 0 ok2
       have n3:(bt (cutL s arrS) 0 != 40)=true:=by
        cases hq:(bt (cutL s arrS) 0==40) with
        | false=>unfold bne;rw [hq];rfl
        | true=>exact absurd (by rw [ok1,decide_eq_true ok2,hq];rfl) hok
       clear hok;generalize bt (cutL s arrS) 0=c0 at *;have z0:=HRs.out.cell 0 _ rfl;have z1:=HRs.out.cell 1 _ rfl;have z2:=HRs.out.cell 2 _ rfl;have z3:=HRs.out.cell 3 _ rfl;have z4:=HRs.out.cell 4 _ rfl;have f0:=HRs.out.fz 0;have f1:=HRs.out.fz 1;have f2:=HRs.out.fz 2;have f3:=HRs.out.fz 3;have f4:=HRs.out.fz 4;have hl0:=HRs.out.lt;have HZz:=hJ (((((HRs.out.set 0 (.slice none 0 0)).set 1 (.string ⟨#[]⟩)).set 2 (.string ⟨#[]⟩)).set 3 (.slice none 0 0)).set 4 (.slice none 0 0));have s0:=HZz.out.cell 0 _ rfl;have s1:=HZz.out.cell 1 _ rfl;have s2:=HZz.out.cell 2 _ rfl;have s3:=HZz.out.cell 3 _ rfl;have s4:=HZz.out.cell 4 _ rfl
       go_upto_region 4 with fail
       (try simp only []);repeat (first | go_values | go_skip | go_guarded | go_step | go_upon)
       refine bodyPost_ret (v:=.tuple #[.agg #[.slice none 0 0,.string ⟨#[]⟩,.string ⟨#[]⟩,.slice none 0 0,.slice none 0 0],.int .i64 6]) (by simp [results,results25,go_sem,s0,s1,s2,s3,s4,hl0]) rfl ?_;have HFr:Hid (∀ W,RSch.rd (fun k=>w.heap.size≤k) W [.slice none 0 0,.string ⟨#[]⟩,.string ⟨#[]⟩,.slice none 0 0,.slice none 0 0] (optS res)):=hJ (fun W=>by rw [HF.out];exact ⟨_,_,_,rfl,⟨none,0,rfl,Sl.empty RTyp _ _⟩,⟨none,0,rfl,Sl.empty RLin _ _⟩,⟨none,0,rfl,Sl.empty RLin _ _⟩⟩);exact ⟨⟨_,by rw [HF.out];rfl,HFr.out _⟩,((((HBl.out.setCell (Nat.le_refl _) _).setCell (Nat.le_refl _) _).setCell (Nat.le_refl _) _).setCell (Nat.le_refl _) _).setCell (Nat.le_refl _) _⟩
     · have hne:(cutL s arrS).toList.isEmpty=true:=by
        cases hq:(cutL s arrS).toList.isEmpty with
        | true=>rfl
        | false=>exact absurd (kDQ hq) ok2
       clear hok;have z0:=HRs.out.cell 0 _ rfl;have z1:=HRs.out.cell 1 _ rfl;have z2:=HRs.out.cell 2 _ rfl;have z3:=HRs.out.cell 3 _ rfl;have z4:=HRs.out.cell 4 _ rfl;have f0:=HRs.out.fz 0;have f1:=HRs.out.fz 1;have f2:=HRs.out.fz 2;have f3:=HRs.out.fz 3;have f4:=HRs.out.fz 4;have hl0:=HRs.out.lt;have HZz:=hJ (((((HRs.out.set 0 (.slice none 0 0)).set 1 (.string ⟨#[]⟩)).set 2 (.string ⟨#[]⟩)).set 3 (.slice none 0 0)).set 4 (.slice none 0 0));have s0:=HZz.out.cell 0 _ rfl;have s1:=HZz.out.cell 1 _ rfl;have s2:=HZz.out.cell 2 _ rfl;have s3:=HZz.out.cell 3 _ rfl;have s4:=HZz.out.cell 4 _ rfl
       go_upto_region 4 with fail
       (try simp only []);repeat (first | go_values | go_skip | go_guarded | go_step | go_upon)
       refine bodyPost_ret (v:=.tuple #[.agg #[.slice none 0 0,.string ⟨#[]⟩,.string ⟨#[]⟩,.slice none 0 0,.slice none 0 0],.int .i64 6]) (by simp [results,results25,go_sem,s0,s1,s2,s3,s4,hl0]) rfl ?_;have HFr:Hid (∀ W,RSch.rd (fun k=>w.heap.size≤k) W [.slice none 0 0,.string ⟨#[]⟩,.string ⟨#[]⟩,.slice none 0 0,.slice none 0 0] (optS res)):=hJ (fun W=>by rw [HF.out];exact ⟨_,_,_,rfl,⟨none,0,rfl,Sl.empty RTyp _ _⟩,⟨none,0,rfl,Sl.empty RLin _ _⟩,⟨none,0,rfl,Sl.empty RLin _ _⟩⟩);exact ⟨⟨_,by rw [HF.out];rfl,HFr.out _⟩,((((HBl.out.setCell (Nat.le_refl _) _).setCell (Nat.le_refl _) _).setCell (Nat.le_refl _) _).setCell (Nat.le_refl _) _).setCell (Nat.le_refl _) _⟩
theorem kE4 {S:Blk} {x:Sch} {cs:List Value} {w:World} (h:RSch.rd S w cs x) (hz:szS x) (E:Env w) :
 Calls Tryz.prog 22 #[.agg cs.toArray] w fun e w'=>e= .returned (.tuple #[.string (kBM x),.int .i64 (kCF (kAI x))])∧Below w.heap.size w w':=kDY h hz E
theorem opt_lawS (s:Str):(optE (kC8 s)=0∧kCF (kAI (optS (kC8 s)))=0∧kBM (optS (kC8 s))=s)∨optE (kC8 s)=6:=by
 cases h:kC8 s with
 | none=>exact .inr rfl
 | some t =>
   obtain ⟨h1,h2⟩:=kGX h;refine .inl ⟨rfl,?_,?_⟩
   · show kCF (kAI t)=0
     rw [h1];rfl
   · show kBM t=s
     unfold kBM;rw [if_pos h1];exact h2
theorem opt_szS (s:Str):szS (optS (kC8 s))∧(optS (kC8 s)).params.length≤1000000:=by
 cases h:kC8 s with
 | none =>
   show szS kEP∧kEP.params.length≤1000000
   have h1:szT kEP.result:=⟨by decide,by decide,fun x hx=>by cases hx⟩
   have h2:∀ t ∈ kEP.params,szT t:=fun t ht=>by cases ht
   have h3:∀ y ∈ kEP.wh,szL y:=fun y hy=>by cases hy
   exact ⟨⟨h2,h1,h3⟩,by decide⟩
 | some t=>exact ⟨kJP (kGX h).1,Nat.le_trans (kAY (kGX h).1).1 (by decide)⟩
theorem back_lawS (x:Sch):((kCF (kAI x)=0∧optE (kC8 (kBM x))=0∧optS (kC8 (kBM x))=x)∨kCF (kAI x)=1)∧SOk (kBM x):=by
 cases h:kAI x with
 | true =>
   have hp:kBM x=kBO x:=by unfold kBM;rw [if_pos h]
   rw [hp,kF9 h];exact ⟨.inl ⟨rfl,rfl,rfl⟩,(text_SOk h).1⟩
 | false =>
   have hp:kBM x=⟨#[]⟩:=by unfold kBM;rw [h];rfl
   rw [hp];exact ⟨.inr rfl,small_SOk (by decide)⟩
theorem law12_Scheme {S:Blk} {x:Sch} {cs:List Value} {s:Str} {w:World} (h:RSch.rd S w cs x) (hb:bigS x) (hw:∀ y ∈ x.wh,szL y) (E:EnvM w) :
 Calls Tryz.prog 4 #[.agg cs.toArray,.string s] w fun e w'=>e= .returned (.bool true)∧Below w.heap.size w w':=by
 have HE:=hJ (fun (W:World) (hW:Below w.heap.size w W)=>E.below hW);have HF:=hJ (fun (W:World) (hW:Below w.heap.size w W)=>ref12_Few (RSch.below h hW) hb);have HR:=hJ h;obtain ⟨_,_,_,rfl,⟨a,c,rfl,_⟩,⟨b,d,rfl,_⟩,⟨o,k,rfl,_⟩⟩:=h;clear hb E;obtain ⟨B0,ya,hW0⟩:=box1 w 29 [.slice a x.params.length c,.string x.result.elem,.string x.result.shape.row,.slice b x.result.shape.dims.length d,.slice o x.wh.length k];have xa0:=box0 ya 0 _ rfl;have xa1:=box0 ya 1 _ rfl;have xa2:=box0 ya 2 _ rfl;have xa3:=box0 ya 3 _ rfl;have xa4:=box0 ya 4 _ rfl;have bka:Bx _ _ _ _:=ya;clear ya;have HX:=hJ bka;clear bka;have HA:=hJ (kDL _ (HE.out _ B0.out));go_enter func4,ntmps4
 go_wp2_with fail
 refine (HA.out).mono ?_;rintro e w1 ⟨rfl,hb1⟩;have HX1:=hJ (HX.out.below hb1 HX.out.lt);have HW1:=hJ (B0.out.trans (hb1.mono B0.out.size));clear hb1 HX HA B0 xa0 xa1 xa2 xa3 xa4;have x0:=HX1.out.cell 0 _ rfl;have x1:=HX1.out.cell 1 _ rfl;have x2:=HX1.out.cell 2 _ rfl;have x3:=HX1.out.cell 3 _ rfl;have x4:=HX1.out.cell 4 _ rfl;by_cases hf:kFO x=true
 · have HF1:=HF.out w1 HW1.out
   rw [hf] at HF1;have HF2:=hJ HF1;clear HF1;by_cases hsz:s.size > 300
   · go_wp2_with fail
     refine (HF2.out).mono ?_;rintro e w2 ⟨rfl,hb2⟩;have HW2:=hJ (HW1.out.trans (hb2.mono HW1.out.size));clear hb2 HF2 HF;have HA2:=hJ (kDL _ (HE.out _ HW2.out))
     go_wp2_with fail
     refine (HA2.out).mono ?_;rintro e w3 ⟨rfl,hb3⟩;have HW3:=hJ (HW2.out.trans (hb3.mono HW2.out.size));clear hb3
     go_wp2_with fail
     go_ret;exact ⟨rfl,HW3.out⟩
   · have HSz:=hJ (few_sch hf hw)
     have HTs:=hJ (small_SOk (s:=s) (by omega));have HTs9:Hid (s.size≤10000):=hJ (by omega);have hpx:=HSz.out.2.1
     go_wp2_with fail
     refine (HF2.out).mono ?_;rintro e w2 ⟨rfl,hb2⟩;have HW2:=hJ (HW1.out.trans (hb2.mono HW1.out.size));have HX2:=hJ (HX1.out.below hb2 HX1.out.lt);clear hb2 HF2 HF HX1 HW1 x0 x1 x2 x3 x4;have x0:=HX2.out.cell 0 _ rfl;have x1:=HX2.out.cell 1 _ rfl;have x2:=HX2.out.cell 2 _ rfl;have x3:=HX2.out.cell 3 _ rfl;have x4:=HX2.out.cell 4 _ rfl;have HP1:=hJ (kE4 (RSch.below HR.out HW2.out) HSz.out.1 (HE.out _ HW2.out).env)
     go_wp2_with fail
     refine (HP1.out).mono ?_;rintro e w3 ⟨rfl,hb3⟩;have HW3:=hJ (HW2.out.trans (hb3.mono HW2.out.size));have HX3:=hJ (HX2.out.below hb3 HX2.out.lt);clear hb3 HP1 HX2 HW2 x0 x1 x2 x3 x4;have x0:=HX3.out.cell 0 _ rfl;have x1:=HX3.out.cell 1 _ rfl;have x2:=HX3.out.cell 2 _ rfl;have x3:=HX3.out.cell 3 _ rfl;have x4:=HX3.out.cell 4 _ rfl;have HP2:=hJ (kF7 (RSch.below HR.out HW3.out) HSz.out.1 (by have:=HSz.out.2.1;omega))
     go_wp2_with fail
     refine (HP2.out).mono ?_;rintro e w4 ⟨rfl,hb4⟩;have HW4:=hJ (HW3.out.trans (hb4.mono HW3.out.size));have HX4:=hJ (HX3.out.below hb4 HX3.out.lt);clear hb4 HP2 HX3 HW3 x0 x1 x2 x3 x4;have HQ1:=hJ (kDZ s HTs.out w4 (HE.out _ HW4.out))
     go_wp2_with fail
     refine HQ1.out.mono ?_;rintro e w5 ⟨⟨ds,rfl,h5⟩,hb5⟩;obtain ⟨_,_,_,rfl,⟨a5,c5,rfl,_⟩,⟨b5,d5,rfl,_⟩,⟨o5,k5,rfl,_⟩⟩:=id h5;have HR5:=hJ h5;have HW5:=hJ (HW4.out.trans (hb5.mono HW4.out.size));have HX5:=hJ (HX4.out.below hb5 HX4.out.lt);clear h5 hb5 HQ1 HX4 HW4;have HEq:=hJ ((kJ7 (optS (kC8 s)) (optS (kC8 s))).2 rfl);have HQ2:=hJ (fun W=>ref12_ParseScheme s HTs9.out W);have HOl:=hJ (opt_lawS s);have HYz:=hJ (opt_szS s);have HBl:=hJ (back_lawS x);have HP8:=hJ (fun (W:World) (hW:Below w.heap.size w W)=>kDZ (kBM x) HBl.out.2 W (HE.out W hW));generalize optS (kC8 s)=y at *;generalize optE (kC8 s)=f1 at *;obtain ⟨HB5,hx5,hz5⟩:=box1 w5 29 [.slice a5 y.params.length c5,.string y.result.elem,.string y.result.shape.row,.slice b5 y.result.shape.dims.length d5,.slice o5 y.wh.length k5];have HY5:Hid (Bx _ _ _ _):=hJ hx5;have HS5:=hJ (RSch.below HR5.out HB5.out);have HV5:=hJ (HW5.out.trans (HB5.out.mono HW5.out.size));have HZ5:=hJ (HX5.out.below HB5.out HX5.out.lt);clear hx5 HR5 HW5 HX5 HB5
     go_wp2_with fail
     refine (HQ2.out _).mono ?_;rintro e w6 ⟨⟨ds,rfl,h6⟩,hb6⟩;obtain ⟨_,_,_,rfl,⟨a6,c6,rfl,_⟩,⟨b6,d6,rfl,_⟩,⟨o6,k6,rfl,_⟩⟩:=id h6;have HR6:=hJ h6;have HW6:=hJ (HV5.out.trans (hb6.mono HV5.out.size));have HX6:=hJ (HZ5.out.below hb6 HZ5.out.lt);have HY6:=hJ (HY5.out.below hb6 HY5.out.lt);have HS6:=hJ (RSch.below HS5.out hb6);have hl6:=hb6.size;rw [hz5] at hl6;have hl2:=HX6.out.lt;clear h6 hb6 HQ2 HV5 HZ5 HY5 HS5 hz5;obtain ⟨HB6,hx6,hz6⟩:=box1 w6 29 [.slice a6 y.params.length c6,.string y.result.elem,.string y.result.shape.row,.slice b6 y.result.shape.dims.length d6,.slice o6 y.wh.length k6];have HT6:Hid (Bx _ _ _ _):=hJ hx6;have HQ6:=hJ (RSch.below HR6.out HB6.out);have HV6:=hJ (HW6.out.trans (HB6.out.mono HW6.out.size));have HX7:=hJ (HX6.out.below HB6.out hl2);have HY7:=hJ (HY6.out.below HB6.out HY6.out.lt);have HS7:=hJ (RSch.below HS6.out HB6.out);clear hx6 HR6 HW6 HX6 HY6 HS6 HB6;have y0:=HY7.out.cell 0 _ rfl;have y1:=HY7.out.cell 1 _ rfl;have y2:=HY7.out.cell 2 _ rfl;have y3:=HY7.out.cell 3 _ rfl;have y4:=HY7.out.cell 4 _ rfl;have z0:=HT6.out.cell 0 _ rfl;have z1:=HT6.out.cell 1 _ rfl;have z2:=HT6.out.cell 2 _ rfl;have z3:=HT6.out.cell 3 _ rfl;have z4:=HT6.out.cell 4 _ rfl;have HE2:=hJ (kD3 HS7.out HQ6.out HYz.out.2 HYz.out.2);rw [HEq.out] at HE2
     go_wp2_with fail
     refine (HE2.out).mono ?_;rintro e w7 ⟨rfl,hb7⟩;have HW7:=hJ (HV6.out.trans (hb7.mono HV6.out.size));have HX8:=hJ (HX7.out.below hb7 HX7.out.lt);have HY8:=hJ (HY7.out.below hb7 HY7.out.lt);have HS8:=hJ (RSch.below HS7.out hb7);clear hb7 HE2 HX7 HY7 HS7 HT6 HQ6 HV6 y0 y1 y2 y3 y4 z0 z1 z2 z3 z4 HEq
     go_wp2_with fail
     refine (HP8.out _ HW7.out).mono ?_;rintro e w8 ⟨⟨ds,rfl,h8⟩,hb8⟩;have HB1:=hJ HBl.out.1;have HZn:=hJ (opt_szS (kBM x)).2;clear HBl HP8 HTs;generalize optS (kC8 (kBM x))=z at *;generalize optE (kC8 (kBM x))=f2 at *;obtain ⟨_,_,_,rfl,⟨a8,c8,rfl,_⟩,⟨b8,d8,rfl,_⟩,⟨o8,k8,rfl,_⟩⟩:=id h8;have HR8:=hJ h8;have HW8:=hJ (HW7.out.trans (hb8.mono HW7.out.size));have HX9:=hJ (HX8.out.below hb8 HX8.out.lt);have HY9:=hJ (HY8.out.below hb8 HY8.out.lt);have HS9:=hJ (RSch.below HS8.out hb8);clear h8 hb8 HX8 HY8 HS8 HW7;have hl9:=HX9.out.lt;have hm9:=HY9.out.lt;obtain ⟨HB8,hx8,hz8⟩:=box1 w8 29 [.slice a8 z.params.length c8,.string z.result.elem,.string z.result.shape.row,.slice b8 z.result.shape.dims.length d8,.slice o8 z.wh.length k8];have HZ8:Hid (Bx _ _ _ _):=hJ hx8;have HQ8:=hJ (RSch.below HR8.out HB8.out);have HV8:=hJ (HW8.out.trans (HB8.out.mono HW8.out.size));have HX10:=hJ (HX9.out.below HB8.out hl9);have HY10:=hJ (HY9.out.below HB8.out hm9);have HS10:=hJ (RSch.below HS9.out HB8.out);clear hx8 HR8 HW8 HX9 HY9 HS9 HB8;have y0:=HY10.out.cell 0 _ rfl;have y1:=HY10.out.cell 1 _ rfl;have y2:=HY10.out.cell 2 _ rfl;have y3:=HY10.out.cell 3 _ rfl;have y4:=HY10.out.cell 4 _ rfl;have HP9:=hJ (kE4 HS10.out HYz.out.1 (HE.out _ HV8.out).env)
     go_wp2_with fail
     refine (HP9.out).mono ?_;rintro e w9 ⟨rfl,hb9⟩;have HW9:=hJ (HV8.out.trans (hb9.mono HV8.out.size));have HX11:=hJ (HX10.out.below hb9 HX10.out.lt);have HZ9:=hJ (HZ8.out.below hb9 HZ8.out.lt);have HQ9:=hJ (RSch.below HQ8.out hb9);clear hb9 HP9 HX10 HY10 HS10 HZ8 HQ8 HV8 y0 y1 y2 y3 y4 hz8;have x0:=HX11.out.cell 0 _ rfl;have x1:=HX11.out.cell 1 _ rfl;have x2:=HX11.out.cell 2 _ rfl;have x3:=HX11.out.cell 3 _ rfl;have x4:=HX11.out.cell 4 _ rfl;have z0:=HZ9.out.cell 0 _ rfl;have z1:=HZ9.out.cell 1 _ rfl;have z2:=HZ9.out.cell 2 _ rfl;have z3:=HZ9.out.cell 3 _ rfl;have z4:=HZ9.out.cell 4 _ rfl;have HE9:=hJ (kD3 HQ9.out (RSch.below HR.out HW9.out) HZn.out (by omega))
     go_upto_region 11 with fail
     have h1:=HB1.out;have h2:=HOl.out;clear HB1 HOl HYz HSz;generalize kCF (kAI x)=g1 at *;generalize kCF (kAI y)=g3 at *;generalize kBM y=g4 at *;rcases h1 with ⟨rfl,rfl,rfl⟩ | rfl
     · rw [(kJ7 _ _).2 rfl] at HE9
       rcases h2 with ⟨rfl,rfl,rfl⟩ | rfl
       · go_wp2_with fail
         refine (HE9.out).mono ?_;rintro e w10 ⟨rfl,hb10⟩;have HW10:=hJ (HW9.out.trans (hb10.mono HW9.out.size));clear hb10
         go_wp2_with fail
         go_ret;exact ⟨rfl,HW10.out⟩
       · go_wp2_with fail
         refine (HE9.out).mono ?_;rintro e w10 ⟨rfl,hb10⟩;have HW10:=hJ (HW9.out.trans (hb10.mono HW9.out.size));clear hb10
         go_wp2_with fail
         go_ret;exact ⟨rfl,HW10.out⟩
     · clear HE9
       rcases h2 with ⟨rfl,rfl,rfl⟩ | rfl
       · go_wp2_with fail
         go_ret;exact ⟨rfl,HW9.out⟩
       · go_wp2_with fail
         go_ret;exact ⟨rfl,HW9.out⟩
 · go_wp2_with fail
   refine (HF.out w1 HW1.out).mono ?_;rintro e w2 ⟨rfl,hb2⟩;have hf:kFO x=false:=by simpa using hf
   rw [hf];have HW2:=hJ (HW1.out.trans (hb2.mono HW1.out.size));clear hb2 HF;have HA2:=hJ (kDL _ (HE.out _ HW2.out))
   go_wp2_with fail
   refine (HA2.out).mono ?_;rintro e w3 ⟨rfl,hb3⟩;have HW3:=hJ (HW2.out.trans (hb3.mono HW2.out.size));clear hb3
   go_wp2_with fail
   go_ret;exact ⟨rfl,HW3.out⟩
end Go.Proofs.YtkndimjghfomcaaGreatDoor
namespace Go.Proofs.YtkndimjghfomcaaGreatDoor.typesScheme
open Go.Proofs.Tryz
open Go.ChangeShapes Go.WideShapes Go.ChangeAt Go.RowKit
theorem own:ownKnob Tryz.prog.godebug=none:=by kernel_rfl
theorem kEQ:laidOutB Tryz.prog=true:=by kernel_rfl
theorem kDS {W:World} {l:List (String × DataW Unit)} (name:String) {x:String × DataW Unit} (h:laidMetH Tryz.prog l W) (hf:l.filter (fun y=>y.1==name)=[x]) (hx:[x].filter (fun y=>y.2.handleName?.isNone)=[x]):laidMet Tryz.prog [x] W:=by
 have h1:=h.filter (fun y=>y.1==name);rw [hf] at h1;have h2:=(laidMetH_iff.1 h1).1
 rwa [hx] at h2
theorem kED {W:World} {name tn:String} {d:DataW Unit} {g:Nat} {t:TypeId} {ms:Array (String × TypeId)} (hg:Tryz.prog.globalNamed name=some g) (hty:(Tryz.prog.globals[g]?).map (·.type)=some t) (ht:Tryz.prog.underlying t=some (.interface ms)) (h:laidMet Tryz.prog [(name,.iface tn d)] W):∃ tp p,World.var? Tryz.prog W name=some #[.iface tp p]:=by
 obtain ⟨ps,⟨g',t',cs,fuel,p,q,hg',ht',hvar,hd,_,_⟩,_⟩:=h;obtain rfl:=Option.some.inj (hg.symm.trans hg');obtain rfl:=Option.some.inj (hty.symm.trans ht')
 have key:∃ u v,cs.toList=[.iface u v]:=by
  cases fuel with
  | zero=>simp [DataW.trod] at hd
  | succ n =>
    unfold DataW.trod at hd;rw [ht] at hd
    split at hd <;> simp_all
 obtain ⟨u,v,hc⟩:=key;exact ⟨u,v,by rw [hvar,Array.eq_one_of_toList hc]⟩
theorem gTab:Tryz.prog.globalNamed "internal/strconv.uint64pow10" =some 1:=by kernel_rfl
theorem kJ5:(Tryz.prog.globals[1]?).map (·.type)=some 351:=by kernel_rfl
theorem kKI:Tryz.prog.cellsOf 351=20:=by kernel_rfl
theorem kKH:Tryz.prog.cellsOf 212=1:=by kernel_rfl
theorem env_of {W:World} (hL:laidMetH Tryz.prog Rows.typesSchemeUptoRow.laid W) (hsh:W.ShapedOpen Tryz.prog):Env W where
 sx:=kED (g:=4) (tn:= "*errors.errorString") (by kernel_rfl) (by kernel_rfl) underlying192 (kDS "strconv.ErrSyntax" hL (x:=("strconv.ErrSyntax",Rows.laid_strconv_ErrSyntax)) (by kernel_rfl) (by kernel_rfl))
 rg:=kED (g:=5) (tn:= "*errors.errorString") (by kernel_rfl) (by kernel_rfl) underlying192 (kDS "strconv.ErrRange" hL (x:=("strconv.ErrRange",Rows.laid_strconv_ErrRange)) (by kernel_rfl) (by kernel_rfl))
 ten:=Lib.tabIs_of_head (rest:=[]) gTab kJ5 underlying351 underlying212 kKH kKI (kDS "internal/strconv.uint64pow10" hL (x:=("internal/strconv.uint64pow10",Lib.tabData .u64 Lib.pow10Tab)) (by kernel_rfl) (by kernel_rfl))
 big:=by
  have h7:(((begin Tryz.prog (fun _ _=>0) default).world.heap[7]?).bind Obj.row?).isSome=true:=by kernel_rfl
  obtain ⟨⟨z,t⟩,e⟩:=Option.isSome_iff_exists.1 h7;obtain ⟨cs,hc,_⟩:=hsh.1 7 z t (of_decide_eq_true (by kernel_rfl)) e;rcases Nat.lt_or_ge 7 W.heap.size with q | q
  · omega
  · rw [Array.getElem?_eq_none q] at hc;cases hc
theorem envM_of {W:World} (hL:laidMetH Tryz.prog Rows.typesSchemeUptoRow.laid W) (hsh:W.ShapedOpen Tryz.prog):EnvM W:=⟨env_of hL hsh,Tryz.laysM146.s1_3 W hsh⟩
theorem kKE (H:Type) (enc:TypeId × Value→H) (W:World) (base:Nat) (args:Array Value) (ds gs:List (DataW H)) (before:List MemPlace)
 (hval0:∀ (j:Nat) t v,Tryz.f4.params[j]? =some t→args[j]? =some v→Value.okWide Tryz.prog W .any base t v)
 (hW:DataW.Whole enc Tryz.prog Tryz.f4.params.toList Rows.typesSchemeSpec.vars false W args.toList ds gs before) (hk:Rows.uptoSmall H (ds++gs)=true) (hL:laidMetH Tryz.prog Rows.typesSchemeUptoRow.laid W) (hsh:W.ShapedOpen Tryz.prog) :
 Calls Tryz.prog 4 args W fun e W'=>∃ v,e= .returned v∧Rows.typesSchemeSpec.post enc Tryz.prog Tryz.f4 false true false false W args v W':=by
 have hval:∀ (j:Nat) t v,Tryz.f4.params[j]? =some t→args[j]? =some v→Value.okWide Tryz.prog W .any base t v:=hval0;have hW':=hW;obtain ⟨p,q,hA0,hV,rfl,hfz,hnd⟩:=hW;have hA:DataW.TrodAll enc Tryz.prog W 0 (fun _=>true) true Tryz.f4.params.toList args.toList ds p:=hA0;rw [Tryz.params4] at hA hval;obtain ⟨v0,vs0,d0,ds0,p0,q0,hargs0,rfl,rfl,h0,r0⟩:=trodAll_cons hA;obtain ⟨v1,vs1,d1,ds1,p1,q1,hargs1,rfl,rfl,h1,r1⟩:=trodAll_cons r0;obtain ⟨rfl,rfl,rfl⟩:=trodAll_nil r1;subst hargs1;obtain rfl:args= #[v0,v1]:=by cases args;simp_all
 obtain ⟨rfl,rfl⟩:=trodVars_none hV;obtain ⟨cs0,rfl,hcs0⟩:=okWide_struct underlying29 (hval 0 _ v0 rfl rfl);obtain ⟨s1,rfl⟩:=okWide_string underlying9 (hval 1 _ v1 rfl rfl);have k0:=h0;have lt0:∀ x ∈ p0,x.block<W.heap.size:=by obtain ⟨m,hm⟩:=k0;exact DataW.trod_lt m _ _ _ hm
 have k1:=h1;have lt1:∀ x ∈ p1,x.block<W.heap.size:=by obtain ⟨m,hm⟩:=k1;exact DataW.trod_lt m _ _ _ hm
 have hb2:Rows.uptoBulk d0≤1048576∧Rows.uptoBulk d1≤1048576:=by
  have h:=of_decide_eq_true hk;simp only [List.append_nil,Rows.uptoBulkAll] at h;omega
 have hb09:=hb2.1;obtain ⟨fuel0,hf0⟩:=h0;obtain ⟨y0,hrd0,hg0⟩:=open_sch hf0 hb09;have hcs09:cs0=cs0.toList.toArray:=by simp
 have hG0:=gS_big (by decide) hg0;have hb19:=hb2.2;obtain ⟨fuel1,hf1⟩:=h1;obtain ⟨s3,hc3,hd3,hs3⟩:=DataW.trod_string underlying9 hf1;replace hc3:[Value.string s1]=[.string s3]:=hc3;cases hc3
 have hz1:s1.size≤1048576:=by
  have h:=hb19;obtain rfl:d1= .lit (.string s1.data.toList):=congrArg Prod.fst hd3;rw [bulk_str] at h;omega
 clear hA0 hval0;rw [hcs09];have HL:=law12_Scheme (s:=s1) hrd0 hG0.1 hG0.2 (envM_of hL hsh);refine HL.mono fun e W' ⟨he,bel⟩=>?_
 subst he;exact ⟨_,rfl,_,_,_,[],_,[],hW',trodAll_mk1 (shut_bool underlying4 _),(trodAll_cons_mk (Below.trod kEQ (by kernel_rfl) (of_decide_eq_true (by kernel_rfl)) k0 bel lt0) (trodAll_cons_mk (Below.trod kEQ (by kernel_rfl) (of_decide_eq_true (by kernel_rfl)) k1 bel lt1) trodAll_mk0)),rfl,bel.frame _,fun h=>by cases h⟩
abbrev textR:ByteArray:= { data:=#[118,97,108,117,101,32,111,117,116,32,111,102,32,114,97,110,103,101] }
abbrev kBO:ByteArray:= { data:=#[105,110,118,97,108,105,100,32,115,121,110,116,97,120] }
def leaf:DataW Unit→Value
 | .lit (.int k n)=>.int k n
 | _=>.nilIface
def flat1:DataW Unit→List Value
 | .agg ds=>ds.map leaf
 | d=>[leaf d]
def kHW:DataW Unit→List Value
 | .agg ds=>ds.flatMap flat1
 | d=>[leaf d]
def kE9 (g:Nat) (row:List Value) (h:Array Obj):Array Obj:=h.modify g fun
 | .cells _ t frozen=>.cells row.toArray t frozen
 | o=>o
noncomputable def low:Nat:=(World.holding Tryz.prog default ⟨#[],#[],[]⟩).heap.size
noncomputable def kB7 (os:Os):World :=
 let w0:=World.holding Tryz.prog os ⟨#[.cells #[.string textR] 422,.cells #[.string kBO] 422],#[],[]⟩
 { w0 with heap:=kE9 6 (kHW Rows.laid_math_bits_deBruijn32tab) (kE9 7 (kHW Rows.laid_math_bits_deBruijn64tab) (kE9 1 (kHW Rows.laid_internal_strconv_uint64pow10) (kE9 3 (kHW Rows.laid_unicode_utf8_acceptRanges) (kE9 2 (kHW Rows.laid_unicode_utf8_first)
   (kE9 5 [.iface 420 (.pointer (some ⟨low,0,none⟩))] (kE9 4 [.iface 420 (.pointer (some ⟨low+1,0,none⟩))] w0.heap)))))) }
abbrev arg0:Value:=.agg #[.slice none 0 0,.string ⟨#[]⟩,.string ⟨#[]⟩,.slice none 0 0,.slice none 0 0]
abbrev arg1:Value:=.string ⟨#[]⟩
theorem kJ3 (os:Os):laidMet Tryz.prog Rows.typesSchemeUptoRow.laid ((kB7 os).forCall (fun _ _=>0) ⟨#[],#[arg0,arg1],[]⟩).memory :=
 laidMet_of_run' 8 (by kernel_rfl) (by kernel_rfl)
theorem reads (os:Os) {H:Type} (enc:TypeId × Value→H):∃ kIQ,DataW.whole enc Tryz.prog ((kB7 os).forCall (fun _ _=>0) ⟨#[],#[arg0,arg1],[]⟩).memory Tryz.f4.params.toList Rows.typesSchemeSpec.vars false #[arg0,arg1].toList 8=some ([.agg [.nil,.agg [.lit (.string []),.agg [.lit (.string []),.nil]],.nil],.lit (.string [])],[],kIQ) :=
 ⟨[],by kernel_rfl⟩
end Go.Proofs.YtkndimjghfomcaaGreatDoor.typesScheme
namespace Go.Proofs.YtkndimjghfomcaaGreatDoor.typesScheme
open Go.Proofs.Tryz
open Go.ChangeShapes Go.WideShapes Go.ChangeAt Go.RowKit
theorem k0:(Rows.typesSchemeUptoRow.inPlace==Tryz.pinned.checked.prog.inPlace 4)=true:=by kernel_rfl
theorem k1:(Rows.typesSchemeUptoRow.unfollowed==Tryz.pinned.checked.prog.unfollowed 4)=true:=by kernel_rfl
end Go.Proofs.YtkndimjghfomcaaGreatDoor.typesScheme
namespace Go.Proofs.YtkndimjghfomcaaGreatDoor.typesScheme
open Go.Proofs.Tryz
open Go.ChangeShapes Go.WideShapes Go.ChangeAt Go.RowKit
theorem k2:(Rows.typesSchemeUptoRow.recurses==Tryz.pinned.checked.prog.recurses 4)=true:=by kernel_rfl
theorem k3:(Rows.typesSchemeUptoRow.named==Tryz.pinned.checked.prog.varsNamed 4)=true:=by kernel_rfl
end Go.Proofs.YtkndimjghfomcaaGreatDoor.typesScheme
namespace Go.Proofs.YtkndimjghfomcaaGreatDoor.typesScheme
open Go.Proofs.Tryz
open Go.ChangeShapes Go.WideShapes Go.ChangeAt Go.RowKit
theorem closed:joinedFacts Tryz.pinned.checked.prog 4 Tryz.f4 (Rows.OpenSpec.upto Rows.typesSchemeSpec).bare Rows.typesSchemeUptoRow=true:=kHU _ _ _ _ _ k0 k1 k2 k3 kEQ (by kernel_rfl) (by kernel_rfl) (by kernel_rfl)
end Go.Proofs.YtkndimjghfomcaaGreatDoor.typesScheme
namespace Go.Proofs.YtkndimjghfomcaaGreatDoor.typesScheme
open Go.Proofs.Tryz
open Go.ChangeShapes Go.WideShapes Go.ChangeAt Go.RowKit
theorem kHT (os:Os):laidMetH Tryz.prog Rows.typesSchemeUptoRow.laid ((kB7 os).forCall (fun _ _=>0) ⟨#[],#[arg0,arg1],[]⟩).memory :=
 laidMetH_iff.2 ⟨by
  rw [show (Rows.typesSchemeUptoRow.laid.filter fun x=>x.2.handleName?.isNone)=Rows.typesSchemeUptoRow.laid from by kernel_rfl]
  exact kJ3 os,by
  rw [show (Rows.typesSchemeUptoRow.laid.filter fun x=>x.2.handleName?.isSome)=[] from by kernel_rfl];exact fun x hx=>absurd hx (List.not_mem_nil)⟩
theorem kGF (os:Os) (started:os.Started) (H:Type) (enc:TypeId × Value→H) (F:Stop.Interp) :
 ReturnsInHanded {} Tryz.checked os 4 .any ((Rows.OpenSpec.upto Rows.typesSchemeSpec).preRow enc Tryz.prog Tryz.f4 Rows.typesSchemeUptoRow.domain false Rows.typesSchemeUptoRow.laid) (((Rows.OpenSpec.upto Rows.typesSchemeSpec).at F).post enc Tryz.prog Tryz.f4 false true false false):=by
 obtain ⟨kIQ,hx⟩:=reads os enc
 refine returnsInHanded_of_row (C:=Tryz.checked) (s:=Rows.OpenSpec.upto Rows.typesSchemeSpec) own started (by kernel_rfl) func4
  (witness_row_at (enc:=enc) (C:=Tryz.checked) false (kB7 os) #[arg0,arg1] rfl (by kernel_rfl) (by kernel_rfl) (by kernel_rfl)
    (OpenSpec.preRow_of_cond 8 hx (by kernel_rfl) (fun k hk=>by cases hk;kernel_rfl) (by kernel_rfl) (kHT os))) ?_
 intro W base args ds gs before hval hW _ hcond _ hL hsh _;exact kKE H enc W base args ds gs before hval hW (hcond _ rfl) hL hsh
theorem kJQ:Rows.TypesSchemeUptoSaid :=
 OpenClaim.holds_of_cond 4 Tryz.f4 rfl rfl rfl rfl rfl rfl rfl ⟨rfl,rfl,rfl,rfl,rfl⟩ rfl rfl rfl rfl rfl (by kernel_rfl) func4 closed
  (of_decide_eq_true (by kernel_rfl)) (by unfold Func.isWrapper;first | (rw [if_pos (by decide +kernel)];kernel_rfl) | (rw [if_neg (by decide +kernel)];exact ⟨rfl,rfl⟩))
  (fun os started H enc _ F=>by rw [OpenClaim.pre_eq_preRow];exact kGF os started H enc F)
theorem plain (f:FuncId) (fn:Func) (hf:Tryz.pinned.checked.prog.funcNamed "framewise/framewiselaw12.TypesScheme" =some f) (hfn:Tryz.pinned.checked.prog.funcs[f]? =some fn) :
 true=Tryz.pinned.checked.prog.looks []∧∀ (j:Nat) t,fn.params[j]? =some t→Tryz.pinned.checked.prog.wantsStandIn t=false:=by
 obtain rfl:f=4:=Option.some.inj ((show Tryz.prog.funcNamed "framewise/framewiselaw12.TypesScheme" =some 4 by kernel_rfl).symm.trans hf) |>.symm
 obtain rfl:fn=Tryz.f4:=(Option.some.inj (func4.symm.trans hfn)).symm;refine ⟨by kernel_rfl,fun j t ht=>?_⟩;rw [Tryz.params4] at ht
 have hm:t=29∨t=9:=by
  have:=Array.mem_of_getElem? ht;simp at this;omega
 rcases hm with rfl | rfl
 · exact (show Tryz.prog.wantsStandIn 29=false by kernel_rfl)
 · exact (show Tryz.prog.wantsStandIn 9=false by kernel_rfl)
theorem byText:Rows.typesSchemeUptoRow.wfByText (Rows.OpenSpec.upto Rows.typesSchemeSpec)=true:=by kernel_rfl
theorem goesNot:false=Rows.typesSchemeUptoRow.goesBy Tryz.pinned.checked.prog:=kJA rfl (by kernel_rfl)
theorem cardUpto:Rows.TypesSchemeUptoCardSaid :=
 Claim7.holds_tied_plain_at .later [] _ _ _ _ kJQ (fun _ h=>by cases h) byText (fun _ h=>by cases h) typesSchemeUpto_row_tie rfl ⟨rfl,rfl⟩ (by kernel_rfl) rfl plain goesNot
end Go.Proofs.YtkndimjghfomcaaGreatDoor.typesScheme
