/- The claim's texts, part U5: contracts of the functions that the statement reaches, and what they say of the data. -/
import Derived.Test.YtkndimjghfomcaaGreatDoorU4
set_option maxRecDepth 100000
set_option maxHeartbeats 8000000
set_option linter.all false
namespace Go.Proofs.YtkndimjghfomcaaGreatDoor
open Go.Proofs.Tryz
open Go.RowKit
theorem AllB.join {P:Int→Bool} {sep:Str} (hs:AllB P sep):∀ (l:List Str),(∀ y ∈ l,AllB P y)→AllB P (kAO l sep)
 | [],_=>AllB.nil
 | [x],h=>by rw [kCH];exact h x (List.mem_cons_self ..)
 | x :: y :: l,h=>by
   rw [kC9];exact (h x (List.mem_cons_self ..)).app (hs.app (AllB.join hs (y :: l) (fun z hz=>h z (List.mem_cons_of_mem _ hz))))
theorem Bal.join:∀ (l:List Str),(∀ y ∈ l,Calm y)→kBC (kAO l comS) (kAO l comS).size=0
 | [],_=>rfl
 | [x],h=>by rw [kCH];exact (h x (List.mem_cons_self ..)).end_
 | x :: y :: l,h=>by
   rw [kC9,ByteArray.size_append,kCB _ (Nat.le_refl _),(h x (List.mem_cons_self ..)).end_,ByteArray.size_append,kCB _ (Nat.le_refl _),Bal.join (y :: l) (fun z hz=>h z (List.mem_cons_of_mem _ hz))]
   decide
def plainC (c:Int):Bool:= !(c==41 || (c==58 || c==10))
theorem noSep_plain {c:Int} (h:kI8 c=true):plainC c=true:=by
 unfold kI8 at h;unfold plainC;simp at h ⊢;omega
theorem textH_plain {x:Shp} (h:kAG x=true):AllB plainC (kA3 x):=by
 obtain ⟨i,e,hi,_⟩:=kF0 h;rw [e];refine AllB.app ?_ (AllB.app ?_ ?_)
 · exact AllB.of fun j hj=>by obtain rfl:j=0:=by (have:j<1:=hj;omega)
                              decide
 · exact AllB.of fun j hj=>by
    obtain ⟨_,_,h10,h41,h58⟩:=hi j hj;unfold plainC;rw [beq_eq_false_iff_ne.2 h10,beq_eq_false_iff_ne.2 h41,beq_eq_false_iff_ne.2 h58];rfl
 · exact AllB.of fun j hj=>by obtain rfl:j=0:=by (have:j<1:=hj;omega)
                              decide
theorem textT_plain {t:Typ} (h:kAD t=true):AllB plainC (kAQ t):=by
 obtain ⟨h1,h2⟩:=kDE h;have he:=(kIH h1).mono fun c=>noSep_plain
 rcases kD0 h with ⟨_,e⟩ | e
 · rw [e];exact he
 · rw [e];exact (textH_plain h2).app he
def Spaced (a:Str):Prop:=∀ j,j<a.size→bt a j=32→0<j∧bt a (j - 1)=44
theorem textT_spaced {t:Typ} (h:kAD t=true):Spaced (kAQ t):=by
 obtain ⟨h1,h2⟩:=kDE h;have he:=kIH h1;rcases kD0 h with ⟨_,e⟩ | e
 · rw [e];exact fun j hj e=>absurd e (he.ne (by decide) hj)
 · obtain ⟨i,f,_,hi⟩:=kF0 h2
   have e2:kAQ t=(⟨#[91]⟩:Str)++(i++((⟨#[93]⟩:Str)++t.elem)):=by rw [e,f];simp only [ByteArray.append_assoc]
   have hc:(⟨#[91]⟩:Str).size=1:=rfl
   have hm:∀ k,k<i.size→bt (kAQ t) (1+k)=bt i k:=fun k hk=>by
    have:=kDC (a:=(⟨#[91]⟩:Str)) (b:=i) (c:=(⟨#[93]⟩:Str)++t.elem) hk;rw [hc] at this;rw [e2];exact this
   intro j hj hb;rcases Nat.eq_zero_or_pos j with rfl | q
   · rw [e2,kBL (by decide)] at hb;exact absurd hb (by decide)
   · obtain ⟨m,rfl⟩:∃ m,j=1+m:=⟨j - 1,by omega⟩
     rcases Nat.lt_or_ge m i.size with g | g
     · rw [hm m g] at hb
       obtain ⟨k0,k1⟩:=hi m g hb;refine ⟨q,?_⟩;rw [show 1+m - 1=1+(m - 1) by omega,hm _ (by omega)];exact k1
     · exfalso
       rw [e2,ByteArray.size_append,ByteArray.size_append,ByteArray.size_append,hc,show (⟨#[93]⟩:Str).size=1 from rfl] at hj;have e3:kAQ t=((⟨#[91]⟩:Str)++i)++((⟨#[93]⟩:Str)++t.elem):=by rw [e2,ByteArray.append_assoc]
       have hai:((⟨#[91]⟩:Str)++i).size=1+i.size:=by rw [ByteArray.size_append,hc]
       obtain ⟨u,rfl⟩:∃ u,m=i.size+u:=⟨m - i.size,by omega⟩
       rw [e3,show 1+(i.size+u)=((⟨#[91]⟩:Str)++i).size+u by omega,kC1 (by rw [ByteArray.size_append,show (⟨#[93]⟩:Str).size=1 from rfl];omega)] at hb;rcases Nat.eq_zero_or_pos u with rfl | g2
       · rw [kBL (by decide)] at hb;exact absurd hb (by decide)
       · obtain ⟨v,rfl⟩:∃ v,u=1+v:=⟨u - 1,by omega⟩
         have:=kC1 (a:=(⟨#[93]⟩:Str)) (b:=t.elem) (k:=v) (by omega);rw [show (⟨#[93]⟩:Str).size=1 from rfl] at this;rw [this] at hb;exact he.ne (by decide) (by omega:v<t.elem.size) hb
theorem occ_bt {s sep:Str} {j:Nat} (h:Lib.occAt s.data.toList sep.data.toList j=true):∀ k,k<sep.size→j+k<s.size∧bt s (j+k)=bt sep k:=fun k hk=>by
 obtain ⟨t,ht⟩:=List.isPrefixOf_iff_prefix.1 h;obtain ⟨c,h1,h2⟩:=at_bt sep k hk
 have e:(s.data.toList.drop j)[k]? =some c:=by
  rw [← ht,List.getElem?_append_left (by rcases Nat.lt_or_ge k sep.data.toList.length with q | q;exact q;rw [List.getElem?_eq_none q] at h1;cases h1)];exact h1
 rw [List.getElem?_drop] at e;refine ⟨?_,?_⟩
 · rcases Nat.lt_or_ge (j+k) s.data.toList.length with q | q
   · exact q
   · rw [List.getElem?_eq_none q] at e;cases e
 · rw [kKJ s _ c e,h2]
theorem deepN_stay {a:Str} {j:Nat}:∀ (d:Nat),(∀ k,k<d→bt a (j+k)≠91∧bt a (j+k)≠93)→kBC a (j+d)=kBC a j
 | 0,_=>rfl
 | d+1,h=>by
   obtain ⟨h1,h2⟩:=h d (Nat.lt_succ_self _);rw [← Nat.add_assoc,kCW,beq_eq_false_iff_ne.2 h1,beq_eq_false_iff_ne.2 h2,if_neg Bool.false_ne_true,if_neg Bool.false_ne_true];exact deepN_stay d fun k hk=>h k (by omega)
theorem whr_bytes:∀ k,k<7→bt whrS k≠91∧bt whrS k≠93:=fun k hk=>by
 obtain rfl | rfl | rfl | rfl | rfl | rfl | rfl:k=0∨k=1∨k=2∨k=3∨k=4∨k=5∨k=6:=by omega
 all_goals decide
theorem where_no {a r:Str} (hc:Calm a) (hs:Spaced a):∀ j,j<a.size→Lib.occAt (a++r).data.toList whrS.data.toList j=false:=fun j hj=>by
 cases ho:Lib.occAt (a++r).data.toList whrS.data.toList j with
 | false=>rfl
 | true =>
   exfalso
   have hw:whrS.size=7:=rfl;have hb:=fun k hk=>(occ_bt ho k hk).2
   have h0:=hb 0 (by decide);rw [Nat.add_zero,kBL hj] at h0;have h0:bt a j=32:=h0.trans (by decide);by_cases h6:j+6<a.size
   · have q6:=hb 6 (by decide)
     rw [kBL h6] at q6;have q5:=hb 5 (by decide);rw [kBL (by omega)] at q5;obtain ⟨_,p⟩:=hs (j+6) h6 (q6.trans (by decide));rw [show j+6 - 1=j+5 by omega,q5] at p
     revert p;decide
   · have hd:kBC a j≠0:=fun e=>(hc.out j hj e).2.1 h0
     apply hd
     have:=deepN_stay (a:=a) (j:=j) (a.size - j) (fun k hk=>by
      have:=hb k (by omega);rw [kBL (by omega)] at this;rw [this];exact whr_bytes k (by omega))
     rw [← this,show j+(a.size - j)=a.size by omega];exact hc.end_
theorem cut_hit {a sep r:Str} (h:∀ j,j<a.size→Lib.occAt (a++(sep++r)).data.toList sep.data.toList j=false):cut1 (a++(sep++r)) sep=a∧cut2 (a++(sep++r)) sep=r∧cut3 (a++(sep++r)) sep=true:=by
 obtain ⟨h1,h2,h3⟩:=Lib.cutB_hit _ _ _ (index_at h);refine ⟨h1.trans kFQ,h2.trans ?_,h3⟩;rw [← ByteArray.append_assoc,← ByteArray.size_append];exact kFV
theorem cut_miss {s sep:Str} (h:Lib.indexB s sep= -1):cut1 s sep=s∧cut2 s sep=⟨#[]⟩∧cut3 s sep=false:=Lib.cutB_miss s sep h
def kG6 (x:Sch):Str:=if 0<x.wh.length then whrS++kAO (x.wh.map kAF) comS else ⟨#[]⟩
theorem textS_form (x:Sch):kBO x=(parS++kAO (x.params.map kAQ) comS)++(arrS++(kAQ x.result++kG6 x)):=by
 unfold kBO kG6 kI9 whereS
 split
 · simp only [ByteArray.append_assoc];rfl
 · simp only [ByteArray.append_assoc,kCZ];rfl
structure SchOk (x:Sch):Prop where
 ps:∀ t ∈ x.params,kAD t=true
 res:kAD x.result=true
 wh:∀ d ∈ x.wh,kAC d=true
theorem sch_ok {x:Sch} (h:kAI x=true):SchOk x:=by
 refine ⟨(kGN h).1,(kGN h).2,fun d hd=>?_⟩;unfold kAI at h;rw [Bool.and_eq_true,Bool.and_eq_true,Bool.and_eq_true,Bool.and_eq_true] at h;have h2:=h.2.2.2.2;rw [Bool.not_eq_true',List.any_eq_false] at h2;have:=h2 d hd
 simpa using this
theorem kGZ {x:Sch} (h:SchOk x):∀ y ∈ x.params.map kAQ,Calm y∧y.toList.isEmpty=false:=fun y hy=>by
 obtain ⟨t,ht,rfl⟩:=List.mem_map.1 hy;exact ⟨kH1 (h.ps t ht),textT_full (h.ps t ht)⟩
theorem wh_linC {x:Sch} (h:SchOk x):∀ y ∈ x.wh.map kAF,AllB kI8 y∧y.toList.isEmpty=false:=fun y hy=>by
 obtain ⟨d,hd,rfl⟩:=List.mem_map.1 hy;exact ⟨(kD4 (h.wh d hd)).mono fun c=>kHR,kD5 (h.wh d hd)⟩
theorem head_plain {x:Sch} (h:SchOk x):AllB plainC (parS++kAO (x.params.map kAQ) comS):=by
 refine AllB.app (AllB.of fun j hj=>by obtain rfl:j=0:=by (have:j<1:=hj;omega)
                                       decide) (AllB.join (AllB.of fun j hj=>?_) _ fun y hy=>?_)
 · have hj:j<2:=hj
   obtain rfl | rfl:j=0∨j=1:=by omega
   · decide
   · decide
 · obtain ⟨t,ht,rfl⟩:=List.mem_map.1 hy
   exact textT_plain (h.ps t ht)
theorem parts_text {x:Sch} (hv:kAI x=true):cut3 (kBO x) arrS=true∧hasP (cut1 (kBO x) arrS) parS=true∧kGH (kBO x)=kAO (x.params.map kAQ) comS∧(kGH (kBO x)).toList.isEmpty=x.params.isEmpty ∧
 cut1 (cut2 (kBO x) arrS) whrS=kAQ x.result∧cut3 (cut2 (kBO x) arrS) whrS=decide (0<x.wh.length)∧cut2 (cut2 (kBO x) arrS) whrS=kAO (x.wh.map kAF) comS:=by
 have h:=sch_ok hv;have hcut:=cut_hit (a:=parS++kAO (x.params.map kAQ) comS) (sep:=arrS) (r:=kAQ x.result++kG6 x) (head_no (c:=41) (t:=[32,45,62,32]) rfl fun j hj=>(head_plain h).ne (by decide) hj);rw [← textS_form] at hcut;obtain ⟨c1,c2,c3⟩:=hcut;have hh:kGH (kBO x)=kAO (x.params.map kAQ) comS:=by unfold kGH;rw [c1,cutP_app]
 refine ⟨c3,by rw [c1];exact hasP_app _ _,hh,?_,?_⟩
 · rw [hh,kE1 (fun y hy=>(kGZ h y hy).2)]
   cases x.params <;> rfl
 · rw [c2]
   have hc:=kH1 h.res;have hs:=textT_spaced h.res;unfold kG6;by_cases hw:0<x.wh.length
   · rw [if_pos hw,decide_eq_true hw]
     obtain ⟨d1,d2,d3⟩:=cut_hit (a:=kAQ x.result) (sep:=whrS) (r:=kAO (x.wh.map kAF) comS) (where_no hc hs);exact ⟨d1,d3,d2⟩
   · rw [if_neg hw,decide_eq_false hw,kCZ]
     have e:x.wh=[]:=List.eq_nil_of_length_eq_zero (by omega)
     have hn:Lib.indexB (kAQ x.result) whrS= -1:=Lib.index_none fun j _=>by
      cases ho:Lib.occAt (kAQ x.result).data.toList whrS.data.toList j with
      | false=>rfl
      | true =>
        have hj:=(occ_bt ho 0 (by decide)).1;have:=where_no (r:=⟨#[]⟩) hc hs j hj;rw [kCZ,ho] at this;cases this
     obtain ⟨d1,d2,d3⟩:=cut_miss hn;exact ⟨d1,d3,by rw [d2,e];rfl⟩
theorem kF9 {x:Sch} (hv:kAI x=true):kC8 (kBO x)=some x:=by
 have h:=sch_ok hv;obtain ⟨p1,p2,p3,p4,p5,p6,p7⟩:=parts_text hv
 have hps:kHO (if (kGH (kBO x)).toList.isEmpty then [] else kDD (kGH (kBO x))) []=some x.params:=by
  rw [p4,p3];cases hp:x.params with
  | nil=>rfl
  | cons t l =>
    have hpc:=kGZ h;rw [hp] at hpc
    show kHO (if false=true then [] else kDD (kAO (kAQ t :: l.map kAQ) comS)) []=_
    rw [if_neg Bool.false_ne_true,params_back hpc];have:=listT_back (t :: l) [] (fun q hq=>h.ps q (by rw [hp];exact hq))
    rwa [List.nil_append] at this
 have hls:(if decide (0<x.wh.length)=true then kHP (kBU (kAO (x.wh.map kAF) comS) comS) [] else some [])=some x.wh:=by
  cases hw:x.wh with
  | nil=>rfl
  | cons d l =>
    have hl:=wh_linC h;rw [hw] at hl;rw [if_pos (by rw [List.length_cons];exact decide_eq_true (by omega)),List.map_cons,kH2 (c:=44) (t:=[32]) rfl _ _ (fun y hy j hj=>(hl y hy).1.ne (by decide) hj)];have:=listL_back (d :: l) [] (fun q hq=>h.wh q (by rw [hw];exact hq))
    rwa [List.nil_append] at this
 unfold kC8;rw [p1,p2,hps,p5,(kDM h.res).1,p6,p7,hls];exact okSch_self hv
theorem cutN_at {a p r:Str} (h0:0<p.size) (hd:kBC a a.size=0) (h:∀ j,j<a.size→kBC a j=0→bt a j≠bt p 0):cutN (a++(p++r)) p=a.size:=by
 have hsz:(a++(p++r)).size=a.size+(p.size+r.size):=by rw [ByteArray.size_append,ByteArray.size_append]
 unfold cutN;refine kH6 a.size 0 a.size (by omega) (by omega) (fun j _ hj=>?_) (fun _=>?_)
 · rw [Bool.not_eq_true',Bool.and_eq_false_iff,kDP _ (by omega)]
   by_cases hz:kBC a j=0
   · refine .inr ?_
     cases hc:((a++(p++r)).extract j (j+p.size)).toList==p.toList with
     | false=>rfl
     | true =>
       have e:=(kA4 _ _).1 hc;have e2:=kJK (a++(p++r)) (a:=j) (b:=j+p.size) (i:=0) (by omega) (by omega);rw [e,Nat.add_zero,kBL hj] at e2;exact absurd e2.symm (h j hj hz)
   · exact .inl (beq_eq_false_iff_ne.2 hz)
 · rw [kDP _ (Nat.le_refl _),hd,kD6]
   simp
theorem cut_at {a p r:Str} (h0:0<p.size) (hd:kBC a a.size=0) (h:∀ j,j<a.size→kBC a j=0→bt a j≠bt p 0):cutB (a++(p++r)) p=true∧cutL (a++(p++r)) p=a∧cutR (a++(p++r)) p=r:=by
 have hn:=cutN_at (r:=r) h0 hd h
 have hb:cutB (a++(p++r)) p=true:=by
  unfold cutB;rw [hn];exact decide_eq_true (by rw [ByteArray.size_append,ByteArray.size_append];omega)
 refine ⟨hb,?_,?_⟩
 · unfold cutL;rw [if_pos hb,hn,kFQ]
 · unfold cutR
   rw [if_pos hb,hn,← ByteArray.append_assoc,← ByteArray.size_append,kFV]
theorem cut_not {s p:Str} (h0:0<p.size) (h:∀ j,j<s.size→kBC s j=0→bt s j≠bt p 0):cutB s p=false∧cutL s p=s∧cutR s p=⟨#[]⟩:=by
 have hn:cutN s p=s.size+1 - p.size:=by
  unfold cutN;refine kH6 (s.size+1 - p.size) 0 _ (by omega) (Nat.le_refl _) (fun j _ hj=>?_) (fun q=>by omega);rw [Bool.not_eq_true',Bool.and_eq_false_iff];by_cases hz:kBC s j=0
  · refine .inr ?_
    cases hc:(s.extract j (j+p.size)).toList==p.toList with
    | false=>rfl
    | true =>
      have e:=(kA4 _ _).1 hc;have e2:=kJK s (a:=j) (b:=j+p.size) (i:=0) (by omega) (by omega);rw [e,Nat.add_zero] at e2;exact absurd e2.symm (h j (by omega) hz)
  · exact .inl (beq_eq_false_iff_ne.2 hz)
 have hb:cutB s p=false:=by
  unfold cutB;rw [hn];exact decide_eq_false (by omega)
 exact ⟨hb,by unfold cutL;rw [hb];rfl,by unfold cutR;rw [hb];rfl⟩
theorem com_first:bt comS 0=44:=by decide
theorem Calm.com {a:Str} (h:Calm a):∀ j,j<a.size→kBC a j=0→bt a j≠bt comS 0:=fun j hj hd=>by rw [com_first];exact (h.out j hj hd).1
theorem goSR_back:∀ (l:List Typ) (g:Nat) (acc:List Typ),(∀ t ∈ l,kAD t=true)→l.length<g→goSR g (kAO (l.map kAQ) comS) acc=some (acc++l)
 | [],g,acc,_,hg=>by
   obtain ⟨g,rfl⟩:∃ m,g=m+1:=⟨g - 1,by have:0<g:=hg;omega⟩
   rw [List.append_nil];rfl
 | t :: l,g,acc,h,hg=>by
   rw [List.length_cons] at hg;obtain ⟨g,rfl⟩:∃ m,g=m+1:=⟨g - 1,by omega⟩
   have hv:=h t (List.mem_cons_self ..);have hc:=kH1 hv;have hz:=kDQ (textT_full hv);have ih:=goSR_back l g (acc++[t]) (fun q hq=>h q (List.mem_cons_of_mem _ hq)) (by omega);rw [List.append_assoc] at ih
   show (if (kAO ((t :: l).map kAQ) comS).size=0 then some acc else _)=_
   cases l with
   | nil =>
     obtain ⟨b1,b2,b3⟩:=cut_not (p:=comS) (by decide) hc.com;rw [List.map_cons,List.map_nil,kCH,if_neg (by omega),b1,b2,b3,(kDM hv).1];exact ih
   | cons u l =>
     rw [List.map_cons] at ih;rw [List.map_cons,List.map_cons]
     have hj:(kAO (kAQ u :: l.map kAQ) comS).toList.isEmpty=false:=by
      rw [kE1]
      · rfl
      · intro y hy
        obtain ⟨q,hq,rfl⟩:=List.mem_map.1 (show y ∈ (u :: l).map kAQ from hy);exact textT_full (h q (List.mem_cons_of_mem _ hq))
     obtain ⟨b1,b2,b3⟩:=cut_at (r:=kAO (kAQ u :: l.map kAQ) comS) (p:=comS) (by decide) hc.end_ hc.com;rw [kC9,if_neg (by rw [ByteArray.size_append];omega),b1,b2,b3,(kDM hv).1,hj];exact ih
theorem goWR_true (g:Nat) (r:Str) (acc:List Lin):goWR (g+1) r true acc=if kEU (kA5 (kCD (cutL r comS)) (cutL r comS))=0 then goWR g (cutR r comS) (cutB r comS) (acc++[kET (kA5 (kCD (cutL r comS)) (cutL r comS))]) else none:=by
 show (if true=true then _ else _)=_
 rw [if_pos rfl]
theorem goWR_false (g:Nat) (r:Str) (acc:List Lin):goWR (g+1) r false acc=some acc:=by
 show (if false=true then _ else _)=_
 rw [if_neg Bool.false_ne_true]
theorem goWR_back:∀ (l:List Lin) (d:Lin) (g:Nat) (acc:List Lin),(∀ t ∈ d :: l,kAC t=true)→l.length+1<g→goWR g (kAO ((d :: l).map kAF) comS) true acc=some (acc++d :: l)
 | l,d,g,acc,h,hg=>by
   obtain ⟨g,rfl⟩:∃ m,g=m+1:=⟨g - 1,by omega⟩
   have hv:=h d (List.mem_cons_self ..);have hc:=Calm.flat ((kD4 hv).mono fun c=>kHR);obtain ⟨r1,r2⟩:=kJW itemR_law hv;cases l with
   | nil =>
     obtain ⟨g,rfl⟩:∃ m,g=m+1:=⟨g - 1,by simp at hg;omega⟩
     obtain ⟨b1,b2,b3⟩:=cut_not (p:=comS) (by decide) hc.com;rw [List.map_cons,List.map_nil,kCH];rw [goWR_true,b1,b2,b3,r1,r2,if_pos rfl,goWR_false]
   | cons u l =>
     rw [List.length_cons] at hg;have ih:=goWR_back l u g (acc++[d]) (fun q hq=>h q (List.mem_cons_of_mem _ hq)) (by omega);rw [List.append_assoc] at ih;rw [List.map_cons] at ih;rw [List.map_cons,List.map_cons];obtain ⟨b1,b2,b3⟩:=cut_at (r:=kAO (kAF u :: l.map kAF) comS) (p:=comS) (by decide) hc.end_ hc.com;rw [kC9,goWR_true,b1,b2,b3,r1,r2,if_pos rfl];exact ih
theorem readSR_back {x:Sch} (hv:kAI x=true):readSR (kBO x)=some x:=by
 have h:=sch_ok hv;have hpc:=kGZ h;have hwc:=wh_linC h;have hl1:=join_len (sep:=comS) _ (fun y hy=>(hpc y hy).2);have hl2:=join_len (sep:=comS) _ (fun y hy=>(hwc y hy).2);rw [List.length_map] at hl1 hl2;have hform:=textS_form x
 have hbal:kBC (parS++kAO (x.params.map kAQ) comS) (parS++kAO (x.params.map kAQ) comS).size=0:=by
  rw [ByteArray.size_append,kCB _ (Nat.le_refl _),Bal.join _ (fun y hy=>(hpc y hy).1)]
  decide
 have hps1:parS.size=1:=rfl;obtain ⟨b1,b2,b3⟩:=cut_at (a:=parS++kAO (x.params.map kAQ) comS) (p:=arrS) (r:=kAQ x.result++kG6 x) (by decide) hbal (fun j hj _=>(head_plain h).ne (by decide) hj);rw [← hform] at b1 b2 b3
 have hsz:(kBO x).size=(1+(kAO (x.params.map kAQ) comS).size)+(5+((kAQ x.result).size+(kG6 x).size)):=by
  rw [hform,ByteArray.size_append,ByteArray.size_append,ByteArray.size_append,ByteArray.size_append];rfl
 have hpp:goSR ((kBO x).size+1) ((cutL (kBO x) arrS).extract 1 (cutL (kBO x) arrS).size) []=some x.params:=by
  rw [b2];have:(parS++kAO (x.params.map kAQ) comS).extract 1 (parS++kAO (x.params.map kAQ) comS).size=kAO (x.params.map kAQ) comS:=kFV (a:=parS);rw [this,goSR_back _ _ _ h.ps (by omega),List.nil_append]
 have hc:=kH1 h.res;have hsp:∀ j,j<(kAQ x.result).size→kBC (kAQ x.result) j=0→bt (kAQ x.result) j≠bt whrS 0:=fun j hj hd=>by rw [show bt whrS 0=32 by decide];exact (hc.out j hj hd).2.1
 have hww:cutL (kAQ x.result++kG6 x) whrS=kAQ x.result∧goWR ((kBO x).size+2) (cutR (kAQ x.result++kG6 x) whrS) (cutB (kAQ x.result++kG6 x) whrS) []=some x.wh:=by
  unfold kG6 at hsz ⊢;by_cases hw:0<x.wh.length
  · rw [if_pos hw] at hsz ⊢
    obtain ⟨c1,c2,c3⟩:=cut_at (r:=kAO (x.wh.map kAF) comS) (p:=whrS) (by decide) hc.end_ hsp;rw [c1,c2,c3];refine ⟨rfl,?_⟩;rw [ByteArray.size_append] at hsz;cases hx:x.wh with
    | nil=>rw [hx] at hw;cases hw
    | cons d l =>
      rw [hx] at hl2 hsz;rw [List.length_cons] at hl2;rw [goWR_back l d _ [] (fun q hq=>h.wh q (by rw [hx];exact hq)) (by omega),List.nil_append]
  · rw [if_neg hw,kCZ]
    obtain ⟨c1,c2,c3⟩:=cut_not (p:=whrS) (by decide) hsp;rw [c1,c2,c3,show x.wh=[] from List.eq_nil_of_length_eq_zero (by omega)];exact ⟨rfl,rfl⟩
 unfold readSR;rw [b1,hpp,b3,hww.1,hww.2,(kDM h.res).1,b2];have e0:bt (parS++kAO (x.params.map kAQ) comS) 0=40:=by rw [kBL (by decide)];decide
 rw [e0,decide_eq_true (by rw [ByteArray.size_append];omega)];exact okSch_self hv
theorem readSR_eq (s:Str):readSR s=kC8 s:=by
 cases h:kC8 s with
 | some x =>
   obtain ⟨h1,rfl⟩:=kGX h;exact readSR_back h1
 | none =>
   cases h2:readSR s with
   | none=>rfl
   | some x =>
     obtain ⟨h1,rfl⟩:=readSR_sound h2;rw [kF9 h1] at h;cases h
theorem parF_le (s:Str):∀ k,k≤s.size→(parF s k).1≤s.size
 | 0,_=>Nat.zero_le _
 | k+1,h=>by
   unfold parF
   split
   · exact Nat.min_le_right _ _
   · exact parF_le s k (by omega)
theorem parF_len (s:Str):∀ k,(parF s k).2.length≤k
 | 0=>Nat.le_refl _
 | k+1=>by
   unfold parF;have:=parF_len s k
   split
   · rw [List.length_append,List.length_singleton];omega
   · omega
theorem deepN_le (s:Str):∀ k:Nat,-(k:Int)≤kBC s k∧kBC s k≤k
 | 0=>by rw [show kBC s 0=0 from rfl];omega
 | k+1=>by
   have:=deepN_le s k;rw [kCW]
   split
   · omega
   · split <;> omega
theorem types_params (s:Str) (hs:s.size≤1000000) (w:World) :
 Calls Tryz.prog 65 #[.string s] w fun e w'=>(∃ v,e= .returned v∧Own RStr 9 (fun _=>False) w' w.heap.size v (kDD s))∧Below w.heap.size w w':=by
 go_enter func65,ntmps65
 go_wp2_with fail
 go_loopw [3,4,5,9] (fun vo vd vf vi W=>∃ k:Nat,k≤s.size∧vi= .int .i64 k∧vd= .int .i64 (kBC s k)∧vf= .int .i64 ((parF s k).1:Nat)∧Hid (Own RStr 9 (fun _=>False) W w.heap.size vo (parF s k).2)∧Hid (Below w.heap.size w W)) (fun _ _ _ vi _=>s.size - (intOf vi).toNat)
 case atStart=>exact ⟨0,Nat.zero_le _,rfl,rfl,rfl,hJ (Own.nil _ _ _ _ _),hJ (Below.refl _ _)⟩
 case round =>
  obtain ⟨k,hk,rfl,rfl,rfl,HO,HB⟩:=hrel;have hle:=parF_le s k hk;have hln:=parF_len s k;have hdp:=deepN_le s k;have hz:=HB.out.size;obtain ⟨va,vm,vc,rfl⟩:=HO.out.shape;by_cases hlt:k<s.size
  · have q1:decide ((k:Int)<(s.size:Int))=true:=decide_eq_true (by omega)
    have q1':decide (k<s.size)=true:=decide_eq_true hlt;have g0:=kBP s k hlt;have HD:=hJ (kCW s k);have HP:Hid (parF s (k+1)=if bt s k=44∧kBC s k=0∧(parF s k).1≤k∧k+1<s.size then (min (k+2) s.size,(parF s k).2++[s.extract (parF s k).1 k]) else parF s k):=hJ rfl;generalize bt s k=c at *;generalize kBC s k=d at *;obtain ⟨p,hp⟩:∃ p,p=parF s k:=⟨_,rfl⟩
    rw [← hp] at HP HO hle hln ⊢;clear hp;obtain ⟨f,l⟩:=p
    change f≤s.size at hle
    change l.length≤k at hln
    have HO:Hid (Own RStr 9 (fun _=>False) wr w.heap.size (.slice va vm vc) l):=hJ HO.out;by_cases h91:c=91
    · subst h91
      have HN:Hid (kBC s (k+1)=d+1):=hJ (by rw [HD.out];rfl);have HQ:Hid (parF s (k+1)=(f,l)):=hJ (by rw [HP.out,if_neg (by rintro ⟨q,_⟩;cases q)]);clear HD HP
      go_wp2_with fail
      go_roundw
      case rel=>exact ⟨k+1,by omega,by go_num,by rw [HN.out],by rw [HQ.out],hJ (by rw [HQ.out];exact HO.out),HB⟩
      case measure=>simp [intOf];omega
    · by_cases h93:c=93
      · subst h93
        have HN:Hid (kBC s (k+1)=d - 1):=hJ (by rw [HD.out];rfl);have HQ:Hid (parF s (k+1)=(f,l)):=hJ (by rw [HP.out,if_neg (by rintro ⟨q,_⟩;cases q)]);clear HD HP
        go_wp2_with fail
        go_roundw
        case rel=>exact ⟨k+1,by omega,by go_num,by rw [HN.out],by rw [HQ.out],hJ (by rw [HQ.out];exact HO.out),HB⟩
        case measure=>simp [intOf];omega
      · have HN:Hid (kBC s (k+1)=d):=hJ (by rw [HD.out,if_neg (by simpa using h91),if_neg (by simpa using h93)])
        have e91:(c==91)=false:=beq_eq_false_iff_ne.2 h91;have e93:(c==93)=false:=beq_eq_false_iff_ne.2 h93;clear HD h91 h93;by_cases h44:c=44
        · subst h44
          by_cases hc:d=0∧f≤k∧k+1<s.size
          · obtain ⟨hd,hf,hk1⟩:=hc
            subst hd;have HQ:Hid (parF s (k+1)=(k+2,l++[s.extract f k])):=hJ (by rw [HP.out,if_pos ⟨rfl,rfl,hf,hk1⟩,Nat.min_eq_left (by omega)]);have q2:decide ((k:Int) ≥ (f:Int))=true:=decide_eq_true (by omega);have q3:decide ((k:Int)+1<(s.size:Int))=true:=decide_eq_true (by omega);have q2':decide (f≤k)=true:=decide_eq_true hf;have q4:¬ ((s.size:Int)<(k:Int)+2):=by omega
            clear HP
            go_wp2_with (at_builtin;refine kAZ kFA rfl _ _ rfl w.heap.size _ _ rfl (HO.out.alloc _) _ (s.extract f k) [.string (s.extract f k)] rfl rfl (kA2 9 (by (simp only [kAL,kAH,Array.getElem?_push,Array.size_push];simp))) (by omega) (by unfold maxLen;omega) (by simp;omega) ?_;intro v9 w9 hown9 hb9 hk9;obtain ⟨a9,m9,c9,rfl⟩:=hown9.shape)
            go_roundw
            case rel=>exact ⟨k+1,by omega,by go_num,by rw [HN.out],by rw [HQ.out];go_num,hJ (by rw [HQ.out];exact hown9),hJ ((HB.out.alloc HB.out.size _).trans hb9)⟩
            case measure=>simp [intOf];omega
          · have HQ:Hid (parF s (k+1)=(f,l)):=hJ (by rw [HP.out,if_neg (fun q=>hc q.2)])
            clear HP;by_cases hd:d=0
            · by_cases hf:f≤k
              · have hk1:¬ k+1<s.size:=fun q=>hc ⟨hd,hf,q⟩
                have q2:decide ((k:Int) ≥ (f:Int))=true:=decide_eq_true (by omega);have q3:decide ((k:Int)+1<(s.size:Int))=false:=decide_eq_false (by omega);have q2':decide (f≤k)=true:=decide_eq_true hf;clear hc;subst hd
                go_wp2_with fail
                go_roundw
                case rel=>exact ⟨k+1,by omega,by go_num,by rw [HN.out],by rw [HQ.out],hJ (by rw [HQ.out];exact HO.out),HB⟩
                case measure=>simp [intOf];omega
              · have q2:decide ((k:Int) ≥ (f:Int))=false:=decide_eq_false (by omega)
                have q2':decide (f≤k)=false:=decide_eq_false hf;clear hc;subst hd
                go_wp2_with fail
                go_roundw
                case rel=>exact ⟨k+1,by omega,by go_num,by rw [HN.out],by rw [HQ.out],hJ (by rw [HQ.out];exact HO.out),HB⟩
                case measure=>simp [intOf];omega
            · have e0:(d==0)=false:=beq_eq_false_iff_ne.2 hd
              clear hc hd
              go_wp2_with fail
              go_roundw
              case rel=>exact ⟨k+1,by omega,by go_num,by rw [HN.out],by rw [HQ.out],hJ (by rw [HQ.out];exact HO.out),HB⟩
              case measure=>simp [intOf];omega
        · have e44:(c==44)=false:=beq_eq_false_iff_ne.2 h44
          have HQ:Hid (parF s (k+1)=(f,l)):=hJ (by rw [HP.out,if_neg (fun q=>h44 q.1)]);clear HP h44
          go_wp2_with fail
          go_roundw
          case rel=>exact ⟨k+1,by omega,by go_num,by rw [HN.out],by rw [HQ.out],hJ (by rw [HQ.out];exact HO.out),HB⟩
          case measure=>simp [intOf];omega
  · have hk2:k=s.size:=by omega
    subst hk2;have q1:decide ((s.size:Int)<(s.size:Int))=false:=decide_eq_false (by omega);have HM:Hid (kDD s=(parF s s.size).2++[s.extract (parF s s.size).1 s.size]):=hJ rfl;generalize kBC s s.size=d at *;obtain ⟨p,hp⟩:∃ p,p=parF s s.size:=⟨_,rfl⟩
    rw [← hp] at HM HO hle hln ⊢;clear hp;obtain ⟨f,l⟩:=p
    change f≤s.size at hle
    change l.length≤s.size at hln
    have HO:Hid (Own RStr 9 (fun _=>False) wr w.heap.size (.slice va vm vc) l):=hJ HO.out;have HM:Hid (kDD s=l++[s.extract f s.size]):=hJ HM.out;have q4:(min (f:Int) (s.size:Int)).toNat=f:=by omega
    go_wp2_with (at_builtin;refine kAZ kFA rfl _ _ rfl w.heap.size _ _ rfl (HO.out.alloc _) _ (s.extract f s.size) [.string (s.extract f s.size)] rfl rfl (kA2 9 (by (simp only [kAL,kAH,Array.getElem?_push,Array.size_push];simp))) (by omega) (by unfold maxLen;omega) (by simp;omega) ?_;intro v9 w9 hown9 hb9 hk9;obtain ⟨a9,m9,c9,rfl⟩:=hown9.shape)
    go_ret;exact ⟨⟨_,rfl,by rw [HM.out];exact hown9⟩,(HB.out.alloc HB.out.size _).trans hb9⟩
theorem kJU (s p:Str) (hs:s.size≤1000000) (hp0:0<p.size) (hp:p.size≤1000) (w:World) :
 Calls Tryz.prog 68 #[.string s,.string p] w fun e w'=>e= .returned (.tuple #[.string (cutL s p),.string (cutR s p),.bool (cutB s p)])∧Below w.heap.size w w':=by
 have HL:Hid (cutL s p=if cutB s p then s.extract 0 (cutN s p) else s):=hJ rfl;have HR:Hid (cutR s p=if cutB s p then s.extract (cutN s p+p.size) s.size else ⟨#[]⟩):=hJ rfl;have HB:Hid (cutB s p=decide (cutN s p+p.size≤s.size)):=hJ rfl;have HN:Hid (cutN s p=kB6 (fun i=> !(kBC s i==0 && (s.extract i (i+p.size)).toList==p.toList)) (s.size+1 - p.size) 0):=hJ rfl;generalize cutN s p=rn at *;go_enter func68,ntmps68
 go_wp2_with fail
 go_loopw [7,8] (fun vd vi W=>∃ k:Nat,k≤s.size+1 - p.size∧vi= .int .i64 k∧vd= .int .i64 (kBC s k)∧Hid (rn=kB6 (fun i=> !(kBC s i==0 && (s.extract i (i+p.size)).toList==p.toList)) (s.size+1 - p.size) k)∧Hid (Below w.heap.size w W)) (fun _ vi _=>s.size+1 - p.size - (intOf vi).toNat)
 case atStart=>exact ⟨0,Nat.zero_le _,rfl,rfl,HN,hJ (Below.refl _ _)⟩
 case round =>
  obtain ⟨k,hk,rfl,rfl,HK,HBl⟩:=hrel;have hdp:=deepN_le s k;by_cases hlt:k<s.size+1 - p.size
  · have q1:decide ((k:Int)+(p.size:Int)≤(s.size:Int))=true:=decide_eq_true (by omega)
    have g0:=kBP s k (by omega);have HD:=hJ (kCW s k);have hto:((k:Int)+(p.size:Int)).toNat=k+p.size:=by omega
    have HY:=hJ (fun h=>kEG (P:=fun i=> !(kBC s i==0 && (s.extract i (i+p.size)).toList==p.toList)) hlt h);have HNo:=hJ (fun h=>kB5 (P:=fun i=> !(kBC s i==0 && (s.extract i (i+p.size)).toList==p.toList)) (n:=s.size+1 - p.size) (k:=k) h);generalize bt s k=c at *;obtain ⟨x,hx⟩:∃ x,s.extract k (k+p.size)=x:=⟨_,rfl⟩
    obtain ⟨d,hd⟩:∃ d,d=kBC s k:=⟨_,rfl⟩
    have HP:Hid ((!(kBC s k==0 && (s.extract k (k+p.size)).toList==p.toList))= !(d==0 && x.toList==p.toList)):=hJ (by rw [← hd,← hx]);rw [← hd] at HD hdp ⊢;clear hd;by_cases hc:(d==0 && x.toList==p.toList)=true
    · obtain ⟨rfl,hc2⟩:d=0∧(x.toList==p.toList)=true:=by
       rw [Bool.and_eq_true,beq_iff_eq] at hc;exact hc
      have hrn:rn=k:=by rw [HK.out];exact HNo.out (by rw [HP.out,hc];rfl)
      have hrb:cutB s p=true:=by rw [HB.out,hrn];exact decide_eq_true (by omega)
      have HL2:Hid (cutL s p=s.extract 0 k):=hJ (by rw [HL.out,hrb,hrn];rfl);have HR2:Hid (cutR s p=s.extract (k+p.size) s.size):=hJ (by rw [HR.out,hrb,hrn];rfl);have HB2:=hJ hrb;clear HL HR HB HN HK HD HY HNo hc hrn hrb HP;have b0:(0:Int)≤(k:Int):=by omega
      have b1:(k:Int)≤(s.size:Int):=by omega
      have b2:(0:Int)≤(k:Int)+(p.size:Int):=by omega
      have b3:(k:Int)+(p.size:Int)≤(s.size:Int):=by omega
      have b4:IntKind.i64.wrap ((k:Int)+(p.size:Int))=(k:Int)+(p.size:Int):=by rw [IntKind.wrap_i64];omega
      go_upto_region 6 with fail
      refine kAA (by kernel_rfl) (by kernel_rfl) ?_
      repeat (go_big_quiet_step (fail))
      refine wpQuiet_nil ?_;rintro _ ⟨t9,rfl⟩
      go_wp2_with fail
      go_returns
      exact ⟨by rw [HL2.out,HR2.out,HB2.out];rfl,HBl.out.trans (t9.b.mono HBl.out.size)⟩
    · have HK2:Hid (rn=kB6 (fun i=> !(kBC s i==0 && (s.extract i (i+p.size)).toList==p.toList)) (s.size+1 - p.size) (k+1)):=hJ (by rw [HK.out];exact HY.out (by rw [HP.out,Bool.eq_false_iff.2 hc];rfl))
      clear HK HY HNo HP;by_cases hd:d=0
      · have hx2:(x.toList==p.toList)=false:=by
         cases hq:(x.toList==p.toList) with
         | false=>rfl
         | true=>exact absurd (by rw [hd,hq];rfl) hc
        clear hc;subst hd
        go_upto_region 7 with fail
        by_cases h91:c=91
        · subst h91
          have HN2:Hid (kBC s (k+1)=0+1):=hJ (by rw [HD.out];rfl);clear HD
          go_wp2_with fail
          go_roundw
          case rel=>exact ⟨k+1,by omega,by go_num,(by rw [HN2.out];try rfl),HK2,HBl⟩
          case measure=>simp [intOf];omega
        · by_cases h93:c=93
          · subst h93
            have HN2:Hid (kBC s (k+1)=0 - 1):=hJ (by rw [HD.out];rfl);clear HD
            go_wp2_with fail
            go_roundw
            case rel=>exact ⟨k+1,by omega,by go_num,(by rw [HN2.out];try rfl),HK2,HBl⟩
            case measure=>simp [intOf];omega
          · have HN2:Hid (kBC s (k+1)=0):=hJ (by rw [HD.out,if_neg (by simpa using h91),if_neg (by simpa using h93)])
            have e91:(c==91)=false:=beq_eq_false_iff_ne.2 h91;have e93:(c==93)=false:=beq_eq_false_iff_ne.2 h93;clear HD h91 h93
            go_wp2_with fail
            go_roundw
            case rel=>exact ⟨k+1,by omega,by go_num,(by rw [HN2.out];try rfl),HK2,HBl⟩
            case measure=>simp [intOf];omega
      · have e0:(d==0)=false:=beq_eq_false_iff_ne.2 hd
        clear hc hd
        go_upto_region 7 with fail
        by_cases h91:c=91
        · subst h91
          have HN2:Hid (kBC s (k+1)=d+1):=hJ (by rw [HD.out];rfl);clear HD
          go_wp2_with fail
          go_roundw
          case rel=>exact ⟨k+1,by omega,by go_num,(by rw [HN2.out];try rfl),HK2,HBl⟩
          case measure=>simp [intOf];omega
        · by_cases h93:c=93
          · subst h93
            have HN2:Hid (kBC s (k+1)=d - 1):=hJ (by rw [HD.out];rfl);clear HD
            go_wp2_with fail
            go_roundw
            case rel=>exact ⟨k+1,by omega,by go_num,(by rw [HN2.out];try rfl),HK2,HBl⟩
            case measure=>simp [intOf];omega
          · have HN2:Hid (kBC s (k+1)=d):=hJ (by rw [HD.out,if_neg (by simpa using h91),if_neg (by simpa using h93)])
            have e91:(c==91)=false:=beq_eq_false_iff_ne.2 h91;have e93:(c==93)=false:=beq_eq_false_iff_ne.2 h93;clear HD h91 h93
            go_wp2_with fail
            go_roundw
            case rel=>exact ⟨k+1,by omega,by go_num,(by rw [HN2.out];try rfl),HK2,HBl⟩
            case measure=>simp [intOf];omega
  · have q1:decide ((k:Int)+(p.size:Int)≤(s.size:Int))=false:=decide_eq_false (by omega)
    have hrn:rn=k:=by rw [HK.out];exact kBX (by omega)
    have hrb:cutB s p=false:=by rw [HB.out,hrn];exact decide_eq_false (by omega)
    have HL2:Hid (cutL s p=s):=hJ (by rw [HL.out,hrb];rfl);have HR2:Hid (cutR s p=⟨#[]⟩):=hJ (by rw [HR.out,hrb];rfl);have HB2:=hJ hrb;clear HL HR HB HN HK hrn hrb
    go_wp2_with fail
    go_returns
    exact ⟨by rw [HL2.out,HR2.out,HB2.out];rfl,HBl.out⟩
def optS (o:Option Sch):Sch:=match o with
 | none=>kEP
 | some x=>x
def TOk (y:Str):Prop:=y.size≤10000∧∀ x ∈ kBU (kB3 (y.extract 0 (kDV y))) comS,x.size≤900
def SOk (s:Str):Prop:=s.size≤1000000∧(∀ y ∈ kDD (kGH s),TOk y)∧TOk (cut1 (cut2 s arrS) whrS)∧∀ y ∈ kBU (cut2 (cut2 s arrS) whrS) comS,y.size≤900
theorem kG8 {s:Str} {t:Typ} (h:kBS s=some t) (hs:TOk s) (w:World) (E:EnvM w) :
 Calls Tryz.prog 36 #[.string s] w fun e w'=>(∃ ds,e= .returned (.tuple #[.agg ds.toArray,.int .i64 0])∧RTyp.rd (fun k=>w.heap.size≤k) w' ds t)∧Below w.heap.size w w':=by
 have:=kGO s hs.1 hs.2 w E;rw [h] at this;exact this
theorem kG9 {s:Str} (h:kBS s=none) (hs:TOk s) (w:World) (E:EnvM w) :
 Calls Tryz.prog 36 #[.string s] w fun e w'=>(∃ ds,e= .returned (.tuple #[.agg ds.toArray,.int .i64 6])∧RTyp.rd (fun k=>w.heap.size≤k) w' ds kBJ)∧Below w.heap.size w w':=by
 have:=kGO s hs.1 hs.2 w E;rw [h] at this;exact this
theorem typT_sz {t:Typ} (h:kAD t=true):szT t:=by
 obtain ⟨h1,h2⟩:=kDE h;exact ⟨Nat.le_trans (elemB_sz h1) (by decide),readH_sz (kGA h2)⟩
theorem strings_cut (s p:Str) (hs:s.size≤1000000) (w:World) (E:EnvM w) :
 Calls Tryz.prog 63 #[.string s,.string p] w fun e w'=>e= .returned (.tuple #[.string (cut1 s p),.string (cut2 s p),.bool (cut3 s p)])∧Below w.heap.size w w':=by
 obtain ⟨m,hm⟩:=E.len;refine (Tryz.strings_Cut s p m w (Nat.lt_of_le_of_lt hs (by decide)) hm).mono ?_;rintro e w' ⟨he,n,rfl⟩;exact ⟨he,below_drewN (Below.refl _ _) n⟩
theorem cut1_size (s p:Str):(cut1 s p).size≤s.size:=by
 rcases Lib.indexB_cases s p with h | ⟨i,h,hr⟩
 · rw [(cut_miss h).1];exact Nat.le_refl _
 · have:cut1 s p=s.extract 0 i:=(Lib.cutB_hit s p i h).1
   rw [this,ByteArray.size_extract];omega
theorem kKD (s p:Str):(cut2 s p).size≤s.size:=by
 rcases Lib.indexB_cases s p with h | ⟨i,h,hr⟩
 · rw [(cut_miss h).2.1];exact Nat.zero_le _
 · have:cut2 s p=s.extract (i+p.size) s.size:=(Lib.cutB_hit s p i h).2.1
   rw [this,ByteArray.size_extract];omega
theorem strings_split (s p:Str) (hs:s.size≤1000000) (hp:1≤p.size) (w:World) (E:EnvM w) :
 Calls Tryz.prog 66 #[.string s,.string p] w fun e w'=>e= .returned (.slice (some ⟨w.heap.size,0,none⟩) (kBU s p).length (kBU s p).length)∧w'=w.alloc (.cells ((kBU s p).map Value.string).toArray 9):=by
 obtain ⟨m,hm⟩:=E.len;have hlen:(kBU s p).length=Lib.countB s p+1:=Lib.splitB_all p hp 0 _ _ rfl;rw [hlen];exact Tryz.strings_Split s p m w (Nat.lt_of_le_of_lt hs (by decide)) hm hp
theorem splitS_len (s p:Str):(kBU s p).length≤s.size+2:=by
 have:=Lib.splitB_length_le p 0 (Lib.countB s p) s;have h2:=Lib.count_le s.data.toList p.data.toList;have e:s.data.toList.length=s.size:=by rw [Array.length_toList];rfl
 unfold kBU;rw [e] at h2;have:Lib.countB s p=Lib.count s.data.toList p.data.toList:=rfl;omega
theorem listT_cons (x:Str) (l:List Str) (acc:List Typ):kHO (x :: l) acc=match kBS x with | none=>none | some t=>kHO l (acc++[t]):=rfl
theorem listL_cons (x:Str) (l:List Str) (acc:List Lin):kHP (x :: l) acc=if kEU (kA5 (kBW x) x)=0 then kHP l (acc++[kET (kA5 (kBW x) x)]) else none:=rfl
theorem cutP_size (s p:Str):(cutP s p).size≤s.size:=by
 unfold cutP Lib.trimPrefix
 show (if _ then _ else _:List UInt8).toArray.size≤_
 rw [List.size_toArray]
 split
 · rw [List.length_drop,Array.length_toList];show s.size - _≤_;omega
 · rw [Array.length_toList];exact Nat.le_refl _
theorem parF_sz (s:Str):(kDD s).length≤s.size+1∧0<(kDD s).length:=by
 have:=parF_len s s.size;unfold kDD;rw [List.length_append,List.length_singleton];omega
theorem kDZ (s:Str) (hs:SOk s) (w:World) (E:EnvM w) :
 Calls Tryz.prog 24 #[.string s] w fun e w'=>(∃ ds,e= .returned (.tuple #[.agg ds.toArray,.int .i64 (optE (kC8 s))])∧RSch.rd (fun k=>w.heap.size≤k) w' ds (optS (kC8 s)))∧Below w.heap.size w w':=by
 have HE:=hJ E;have h8:8≤w.heap.size:=E.env.big;obtain ⟨hsz,hk1,hk2,hk3⟩:=hs;have HR:Hid (kC8 s=if cut3 s arrS && hasP (cut1 s arrS) parS then (match kHO (if (kGH s).toList.isEmpty then [] else kDD (kGH s)) [] with | none=>none | some ps=>match kBS (cut1 (cut2 s arrS) whrS) with | none=>none | some t=>match (if cut3 (cut2 s arrS) whrS then kHP (kBU (cut2 (cut2 s arrS) whrS) comS) [] else some []) with | none=>none | some ls=>kIK s ⟨ps,t,ls⟩) else none):=hJ rfl;have HC1:=hJ (fun W E=>strings_cut s arrS hsz W E);have HC2:=fun W=>Tryz.strings_CutPrefix (cut1 s arrS) ⟨#[40]⟩ W
 change ∀ W,Calls _ _ _ W fun e w'=>e= .returned (.tuple #[.string (kGH s),.bool (hasP (cut1 s arrS) parS)])∧_ at HC2
 replace HC2:=hJ HC2;have h1z:=cut1_size s arrS;have h2z:=kKD s arrS;have HC3:=hJ (fun W E=>strings_cut (cut2 s arrS) whrS (Nat.le_trans h2z hsz) W E);have h3z:=kKD (cut2 s arrS) whrS;have hhz:(kGH s).size≤s.size:=Nat.le_trans (cutP_size _ _) h1z;have HCS:=hJ (fun W E=>strings_split (cut2 (cut2 s arrS) whrS) comS (Nat.le_trans h3z (Nat.le_trans h2z hsz)) (by decide) W E);have HSL:Hid ((kBU (cut2 (cut2 s arrS) whrS) comS).length≤1000002):=hJ (by have:=splitS_len (cut2 (cut2 s arrS) whrS) comS;omega);have HK1:=hJ hk1;have HK2:=hJ hk2;have HK3:=hJ hk3;have HPL:=parF_sz (kGH s);have HCP:=hJ (fun W=>types_params (kGH s) (Nat.le_trans hhz hsz) W);clear E hk1 hk2 hk3 h1z h2z h3z;generalize kC8 s=res at *;have HRb:=hJ (Bx.fresh w 29 [.slice none 0 0,.string ⟨#[]⟩,.string ⟨#[]⟩,.slice none 0 0,.slice none 0 0]);have HB0:=hJ ((Below.refl _ w).alloc (Nat.le_refl _) (.cells #[.slice none 0 0,.string ⟨#[]⟩,.string ⟨#[]⟩,.slice none 0 0,.slice none 0 0] 29));go_enter func24,ntmps24
 go_wp2_with fail
 have HE0:=hJ (HE.out.keep HB0.out h8);generalize w.alloc (.cells #[.slice none 0 0,.string ⟨#[]⟩,.string ⟨#[]⟩,.slice none 0 0,.slice none 0 0] 29)=W0 at *;refine (HC1.out _ HE0.out).mono ?_;rintro e W1 ⟨rfl,hb1⟩;have HRs:=hJ (HRb.out.below hb1 HRb.out.lt);have HBl:=hJ (HB0.out.trans (hb1.mono HB0.out.size));clear HC1 HRb HB0 HE0 hb1
 go_wp2_with fail
 refine (HC2.out _).mono ?_;rintro e W9 ⟨rfl,rfl⟩;clear HC2;by_cases hok:(cut3 s arrS && hasP (cut1 s arrS) parS)=true
 · replace HR:Hid (res=match kHO (if (kGH s).toList.isEmpty then [] else kDD (kGH s)) [] with | none=>none | some ps=>match kBS (cut1 (cut2 s arrS) whrS) with | none=>none | some t=>match (if cut3 (cut2 s arrS) whrS then kHP (kBU (cut2 (cut2 s arrS) whrS) comS) [] else some []) with | none=>none | some ls=>kIK s ⟨ps,t,ls⟩):=hJ (by rw [HR.out,if_pos hok])
   obtain ⟨ok1,ok2⟩:cut3 s arrS=true∧hasP (cut1 s arrS) parS=true:=by simpa using hok
   rw [ok1,ok2];generalize cut1 (cut2 s arrS) whrS=rt at *;generalize cut3 (cut2 s arrS) whrS=sm at *;generalize kBU (cut2 (cut2 s arrS) whrS) comS=L2 at *;generalize cut2 (cut2 s arrS) whrS=wh at *;generalize cut2 s arrS=rs at *;generalize cut1 s arrS=hd0 at *;generalize kDD (kGH s)=L at *;generalize kGH s=hd at *;clear hok ok1 ok2;have HBX:=hJ (Bx.fresh W9 29 [.slice none 0 0,.string ⟨#[]⟩,.string ⟨#[]⟩,.slice none 0 0,.slice none 0 0]);have hgw:w.heap.size<W9.heap.size:=HRs.out.lt;replace HRs:=hJ (HRs.out.alloc (.cells #[.slice none 0 0,.string ⟨#[]⟩,.string ⟨#[]⟩,.slice none 0 0,.slice none 0 0] 29));replace HBl:=hJ (HBl.out.alloc (by omega) (.cells #[.slice none 0 0,.string ⟨#[]⟩,.string ⟨#[]⟩,.slice none 0 0,.slice none 0 0] 29))
   go_upto_if 43 with fail
   generalize hg:W9.heap.size=g at *;generalize W9.alloc (.cells #[.slice none 0 0,.string ⟨#[]⟩,.string ⟨#[]⟩,.slice none 0 0,.slice none 0 0] 29)=W at *;clear hg W9
   go_cut [4] (fun v4 W2=>∃ (ps:List Typ) (va:Option Addr) (vm vc B:Nat),v4= .string hd∧g<B∧B≤W2.heap.size∧ps.length≤s.size+1∧Hid (kHO (if hd.toList.isEmpty then [] else L) []=some ps)∧Hid (∀ t ∈ ps,kAD t=true)∧Hid (Bx W2 g 29 [.slice va vm vc,.string ⟨#[]⟩,.string ⟨#[]⟩,.slice none 0 0,.slice none 0 0])∧Hid (Own RTyp 26 (fun q=>B≤q) W2 B (.slice va vm vc) ps)∧Hid (Bx W2 w.heap.size 29 [.slice none 0 0,.string ⟨#[]⟩,.string ⟨#[]⟩,.slice none 0 0,.slice none 0 0])∧Hid (Below w.heap.size w W2))
   case first =>
    cases hem:hd.toList.isEmpty with
    | true =>
      go_wp2_with fail
      go_meet
      exact ⟨[],none,0,0,W.heap.size,rfl,HBX.out.lt,Nat.le_refl _,Nat.zero_le _,hJ (by rw [hem];rfl),hJ (fun t ht=>by cases ht),HBX,hJ (Own.nil _ _ _ _ _),HRs,HBl⟩
    | false =>
      have hgW:=HBX.out.lt
      go_wp2_with fail
      refine (HCP.out _).mono ?_;rintro e W5 ⟨⟨v5,rfl,hown5⟩,hb5⟩;obtain ⟨gL,cL,rfl,hgL,hgL2,hsl5,hfz5⟩:=hown5.open_ HPL.2
      have HG5:Hid (∀ k,k<L.length→W5.cell? ⟨gL,k,none⟩=some (.string (L.getD k default))):=hJ (fun k hk=>by
       obtain ⟨cs,hr,hc⟩:=hsl5.cells k (L.getD k default) (getD_at hk);obtain rfl:cs=[.string (L.getD k default)]:=hr;have:=hc 0 _ rfl
       rwa [show RStr.size=1 from rfl,Nat.mul_one,Nat.add_zero,Nat.zero_add] at this)
      replace HBX:=hJ (HBX.out.below hb5 HBX.out.lt);replace HRs:=hJ (HRs.out.below hb5 HRs.out.lt);replace HBl:=hJ (HBl.out.trans (hb5.mono HBl.out.size));have hg5:=HBX.out.lt;have hL1:=HPL.1;obtain ⟨tot,hto⟩:∃ tot,tot=kHO L []:=⟨_,rfl⟩
      have HR2:Hid (tot=none→res=none):=hJ (fun h=>by rw [HR.out,hem,if_neg Bool.false_ne_true,← hto,h]);have HTo:=hJ hto.symm;have HTo0:=HTo;clear hto hown5 hsl5 hb5 HCP HC3 HCS
      go_wp2_with fail
      go_loopw [47] (fun i wr=>∃ (k:Nat) (ps:List Typ) (va:Option Addr) (vm vc:Nat),k≤L.length∧i= .int .i64 k∧ps.length≤k∧W5.heap.size≤wr.heap.size∧Hid (kHO (L.drop k) ps=tot)∧Hid (∀ t ∈ ps,kAD t=true)∧Hid (wr.heap[gL]? =W5.heap[gL]?)∧Hid (Bx wr g 29 [.slice va vm vc,.string ⟨#[]⟩,.string ⟨#[]⟩,.slice none 0 0,.slice none 0 0])∧Hid (Own RTyp 26 (fun q=>W5.heap.size≤q) wr W5.heap.size (.slice va vm vc) ps)∧Hid (Bx wr w.heap.size 29 [.slice none 0 0,.string ⟨#[]⟩,.string ⟨#[]⟩,.slice none 0 0,.slice none 0 0])∧Hid (Below w.heap.size w wr)) (fun i _=>L.length - (intOf i).toNat)
      case atStart=>exact ⟨0,[],none,0,0,Nat.zero_le _,rfl,Nat.le_refl _,Nat.le_refl _,HTo,hJ (fun t ht=>by cases ht),hJ rfl,HBX,hJ (Own.nil _ _ _ _ _),HRs,HBl⟩
      case round =>
       clear HBX HRs HBl HTo;obtain ⟨k,ps,va,vm,vc,hk,rfl,hpl,hwz,HRun,HV,HGb,HBX,HOwn,HRs,HBl⟩:=hrel;by_cases hlt:k<L.length
       · have y0:wr.cell? ⟨gL,k,none⟩=some (.string (L.getD k default)):=by rw [World.cell?_of_block (w:=W5) HGb.out];exact HG5.out k hlt
         have hxm:=kAJ hlt;have HTx:=hJ (HK1.out _ hxm);have HDr:Hid (L.drop k=L.getD k default :: L.drop (k+1)):=hJ (drop_at hlt);replace HRun:Hid ((match kBS (L.getD k default) with | none=>none | some t=>kHO (L.drop (k+1)) (ps++[t]))=tot):=hJ (by rw [← HRun.out,HDr.out,listT_cons]);have HEr:=hJ (HE.out.keep HBl.out h8);clear HDr hxm;generalize L.getD k default=x at *;cases hrx:kBS x with
         | none =>
           have HC:=hJ (kG9 hrx HTx.out wr HEr.out);have HF:Hid (res=none):=hJ (HR2.out (by rw [← HRun.out,hrx]));clear HRun hrx
           go_wp2_with fail
           refine HC.out.mono ?_;rintro e w4 ⟨⟨ds,rfl,ty,rfl,⟨ay,cy,rfl,hy⟩⟩,hb4⟩;have hz4:=hb4.size;have HT:=hJ (Bx.fresh w4 26 [.string (kBJ).elem,.string (kBJ).shape.row,.slice ay (kBJ).shape.dims.length cy]);have t0:=HT.out.cell 0 _ rfl;have t1:=HT.out.cell 1 _ rfl;have t2:=HT.out.cell 2 _ rfl;have HY:=hJ (hy.below ((Below.refl _ _).alloc (Nat.le_refl _) (.cells #[.string (kBJ).elem,.string (kBJ).shape.row,.slice ay (kBJ).shape.dims.length cy] 26)));have HB5:=hJ (hb4.alloc hz4 (.cells #[.string (kBJ).elem,.string (kBJ).shape.row,.slice ay (kBJ).shape.dims.length cy] 26));have HOld:=HOwn;replace HBX:=hJ (HBX.out.below HB5.out HBX.out.lt);replace HOwn:=hJ (HOwn.out.below HB5.out);replace HRs:=hJ (HRs.out.below HB5.out HRs.out.lt);replace HBl:=hJ (HBl.out.trans (HB5.out.mono HBl.out.size));replace HGb:=hJ ((HB5.out.block gL (by omega)).trans HGb.out);clear hb4 hy HC y0;have z0:=HRs.out.cell 0 _ rfl;have z1:=HRs.out.cell 1 _ rfl;have z2:=HRs.out.cell 2 _ rfl;have z3:=HRs.out.cell 3 _ rfl;have z4:=HRs.out.cell 4 _ rfl;have f0:=HRs.out.fz 0;have f1:=HRs.out.fz 1;have f2:=HRs.out.fz 2;have f3:=HRs.out.fz 3;have f4:=HRs.out.fz 4;have hl0:=HRs.out.lt;have HZz:=hJ (((((HRs.out.set 0 (.slice none 0 0)).set 1 (.string ⟨#[]⟩)).set 2 (.string ⟨#[]⟩)).set 3 (.slice none 0 0)).set 4 (.slice none 0 0));have s0:=HZz.out.cell 0 _ rfl;have s1:=HZz.out.cell 1 _ rfl;have s2:=HZz.out.cell 2 _ rfl;have s3:=HZz.out.cell 3 _ rfl;have s4:=HZz.out.cell 4 _ rfl
           go_upto_region 12 with fail
           (try simp only []);repeat (first | go_values | go_skip | go_guarded | go_step | go_upon)
           refine bodyPost_ret (v:=.tuple #[.agg #[.slice none 0 0,.string ⟨#[]⟩,.string ⟨#[]⟩,.slice none 0 0,.slice none 0 0],.int .i64 6]) (by simp [results,results24,go_sem,s0,s1,s2,s3,s4,hl0]) rfl ?_;have HFr:Hid (∀ W,RSch.rd (fun k=>w.heap.size≤k) W [.slice none 0 0,.string ⟨#[]⟩,.string ⟨#[]⟩,.slice none 0 0,.slice none 0 0] (optS res)):=hJ (fun W=>by rw [HF.out];exact ⟨_,_,_,rfl,⟨none,0,rfl,Sl.empty RTyp _ _⟩,⟨none,0,rfl,Sl.empty RLin _ _⟩,⟨none,0,rfl,Sl.empty RLin _ _⟩⟩);exact ⟨⟨_,by rw [HF.out];rfl,HFr.out _⟩,((((HBl.out.setCell (Nat.le_refl _) _).setCell (Nat.le_refl _) _).setCell (Nat.le_refl _) _).setCell (Nat.le_refl _) _).setCell (Nat.le_refl _) _⟩
         | some t =>
           have HC:=hJ (kG8 hrx HTx.out wr HEr.out);have HNx:Hid (kHO (L.drop (k+1)) (ps++[t])=tot):=hJ (by rw [← HRun.out,hrx]);have hvt:=(kDJ hrx).1;clear HRun hrx
           go_wp2_with fail
           refine HC.out.mono ?_;rintro e w4 ⟨⟨ds,rfl,ty,rfl,⟨ay,cy,rfl,hy⟩⟩,hb4⟩;have hz4:=hb4.size;have HT:=hJ (Bx.fresh w4 26 [.string (t).elem,.string (t).shape.row,.slice ay (t).shape.dims.length cy]);have t0:=HT.out.cell 0 _ rfl;have t1:=HT.out.cell 1 _ rfl;have t2:=HT.out.cell 2 _ rfl;have HY:=hJ (hy.below ((Below.refl _ _).alloc (Nat.le_refl _) (.cells #[.string (t).elem,.string (t).shape.row,.slice ay (t).shape.dims.length cy] 26)));have HB5:=hJ (hb4.alloc hz4 (.cells #[.string (t).elem,.string (t).shape.row,.slice ay (t).shape.dims.length cy] 26));have HOld:=HOwn;replace HBX:=hJ (HBX.out.below HB5.out HBX.out.lt);replace HOwn:=hJ (HOwn.out.below HB5.out);replace HRs:=hJ (HRs.out.below HB5.out HRs.out.lt);replace HBl:=hJ (HBl.out.trans (HB5.out.mono HBl.out.size));replace HGb:=hJ ((HB5.out.block gL (by omega)).trans HGb.out);clear hb4 hy HC y0;have v0:=HBX.out.cell 0 _ rfl;have fv0:=HBX.out.fz 0
           go_wp2_with (at_builtin;refine kAZ kG4 rfl _ _ rfl W5.heap.size _ _ rfl (HOwn.out.alloc _) _ t [.string t.elem,.string t.shape.row,.slice ay t.shape.dims.length cy] rfl ⟨_,rfl,ay,cy,rfl,(HY.out.below ((Below.refl _ _).alloc (Nat.le_refl _) _)).mono (fun q hq _=>⟨by omega,fun e=>by have:=(HOld.out.block e).2;omega⟩)⟩ (kA2 26 (by (simp only [kAL,kAH,Array.getElem?_push,Array.size_push];simp))) (by omega) (by unfold maxLen;omega) (by simp;omega) ?_;intro v9 w9 hown9 hb9 hk9;obtain ⟨a9,m9,c9,rfl⟩:=hown9.shape;have HX9:=hJ ((HBX.out.alloc _).kp hk9 (HOwn.out.ne (by omega)));have HR9:=hJ ((HRs.out.alloc _).kp hk9 (HOwn.out.ne (by omega)));have z9:=HX9.out.cell 0 _ rfl;have f9:=HX9.out.fz 0;have HG9:Hid (w9.heap[gL]? =W5.heap[gL]?):=hJ ((hk9.block gL (by simp;omega) (HOwn.out.ne (by omega))).trans (((Below.refl _ _).alloc (Nat.le_refl _) _).block gL (by simp;omega) |>.trans HGb.out));have hz9:=hb9.size)
           go_roundw
           case rel=>exact ⟨k+1,ps++[t],a9,m9,c9,by omega,by go_num,by rw [List.length_append];show ps.length+1≤_;omega,by have:=hz9;simp at this ⊢;omega,HNx,hJ (fun d hd=>(List.mem_append.mp hd).elim (HV.out d) (fun q=>by rw [List.mem_singleton.mp q];exact hvt)),hJ ((kAB (a:=⟨g,0,none⟩) (by show g≠gL;omega)).trans HG9.out),hJ (HX9.out.set 0 _),hJ (hown9.set _ (fun q hq=>by show q≠g;omega) (by show g<_;omega)),hJ (HR9.out.other (by show g≠_;omega)),hJ (((HBl.out.alloc HBl.out.size _).trans (hb9.mono (by omega))).setCell (by show _≤g;omega) _)⟩
           case measure=>simp [intOf];omega
       · have hke:k=L.length:=by omega
         have HPs:Hid (kHO L []=some ps):=hJ (by rw [HTo0.out,← HRun.out,List.drop_of_length_le (by omega)];rfl)
         go_wp2_with fail
         go_meet
         exact ⟨ps,va,vm,vc,W5.heap.size,rfl,hg5,hwz,by omega,hJ (by rw [hem,if_neg Bool.false_ne_true];exact HPs.out),HV,HBX,HOwn,HRs,HBl⟩
   case rest =>
    obtain ⟨ps,pa,vm,pc,B,rfl,hgB,hBW,hpl,HPs,HVp,HBX,HOwn,HRs,HBl⟩:=hcut;generalize hwc:wc=W2 at *;clear hwc;replace HR:Hid (res=match kBS rt with | none=>none | some t=>match (if sm then kHP L2 [] else some []) with | none=>none | some ls=>kIK s ⟨ps,t,ls⟩):=hJ (by rw [HR.out,HPs.out]);obtain ⟨a9,c9,e9,hsl⟩:=HOwn.out.sl;rw [Value.slice.injEq] at e9;obtain ⟨rfl,rfl,rfl⟩:=e9;have HSp:=hJ (hsl.mono (S':=fun q=>g<q) (fun q hq _=>by rcases hq with q | q <;> omega));have HEw:=hJ (HE.out.keep HBl.out h8);clear HOwn hsl HPs HK1 HCP
    go_wp2_with fail
    refine (HC3.out _ HEw.out).mono ?_;rintro e W3 ⟨rfl,hb3⟩;replace HBX:=hJ (HBX.out.below hb3 HBX.out.lt);replace HRs:=hJ (HRs.out.below hb3 HRs.out.lt);replace HBl:=hJ (HBl.out.trans (hb3.mono HBl.out.size));replace HSp:=hJ (HSp.out.below hb3);replace HEw:=hJ (HE.out.keep HBl.out h8);have hg3:=HBX.out.lt;have hz3:=HBl.out.size;clear HC3 hb3;cases hrt:kBS rt with
    | none =>
      have HC:=hJ (fun W E=>kG9 hrt HK2.out W E);have HF:Hid (res=none):=hJ (by rw [HR.out,hrt]);clear HR hrt HCS
      go_wp2_with fail
      refine (HC.out _ HEw.out).mono ?_;rintro e w4 ⟨⟨ds,rfl,ty,rfl,⟨ay,cy,rfl,hy⟩⟩,hb4⟩;have hz4:=hb4.size;have HT:=hJ (Bx.fresh w4 26 [.string (kBJ).elem,.string (kBJ).shape.row,.slice ay (kBJ).shape.dims.length cy]);have t0:=HT.out.cell 0 _ rfl;have t1:=HT.out.cell 1 _ rfl;have t2:=HT.out.cell 2 _ rfl;have HY:=hJ (hy.below ((Below.refl _ _).alloc (Nat.le_refl _) (.cells #[.string (kBJ).elem,.string (kBJ).shape.row,.slice ay (kBJ).shape.dims.length cy] 26)));have HB5:=hJ (hb4.alloc hz4 (.cells #[.string (kBJ).elem,.string (kBJ).shape.row,.slice ay (kBJ).shape.dims.length cy] 26));replace HBX:=hJ (HBX.out.below HB5.out HBX.out.lt);replace HRs:=hJ (HRs.out.below HB5.out HRs.out.lt);replace HBl:=hJ (HBl.out.trans (HB5.out.mono HBl.out.size));replace HSp:=hJ (HSp.out.below HB5.out);clear hb4 hy HC HEw;clear HY HSp HT t0 t1 t2;have z0:=HRs.out.cell 0 _ rfl;have z1:=HRs.out.cell 1 _ rfl;have z2:=HRs.out.cell 2 _ rfl;have z3:=HRs.out.cell 3 _ rfl;have z4:=HRs.out.cell 4 _ rfl;have f0:=HRs.out.fz 0;have f1:=HRs.out.fz 1;have f2:=HRs.out.fz 2;have f3:=HRs.out.fz 3;have f4:=HRs.out.fz 4;have hl0:=HRs.out.lt;have HZz:=hJ (((((HRs.out.set 0 (.slice none 0 0)).set 1 (.string ⟨#[]⟩)).set 2 (.string ⟨#[]⟩)).set 3 (.slice none 0 0)).set 4 (.slice none 0 0));have s0:=HZz.out.cell 0 _ rfl;have s1:=HZz.out.cell 1 _ rfl;have s2:=HZz.out.cell 2 _ rfl;have s3:=HZz.out.cell 3 _ rfl;have s4:=HZz.out.cell 4 _ rfl
      go_upto_region 18 with fail
      (try simp only []);repeat (first | go_values | go_skip | go_guarded | go_step | go_upon)
      refine bodyPost_ret (v:=.tuple #[.agg #[.slice none 0 0,.string ⟨#[]⟩,.string ⟨#[]⟩,.slice none 0 0,.slice none 0 0],.int .i64 6]) (by simp [results,results24,go_sem,s0,s1,s2,s3,s4,hl0]) rfl ?_;have HFr:Hid (∀ W,RSch.rd (fun k=>w.heap.size≤k) W [.slice none 0 0,.string ⟨#[]⟩,.string ⟨#[]⟩,.slice none 0 0,.slice none 0 0] (optS res)):=hJ (fun W=>by rw [HF.out];exact ⟨_,_,_,rfl,⟨none,0,rfl,Sl.empty RTyp _ _⟩,⟨none,0,rfl,Sl.empty RLin _ _⟩,⟨none,0,rfl,Sl.empty RLin _ _⟩⟩);exact ⟨⟨_,by rw [HF.out];rfl,HFr.out _⟩,((((HBl.out.setCell (Nat.le_refl _) _).setCell (Nat.le_refl _) _).setCell (Nat.le_refl _) _).setCell (Nat.le_refl _) _).setCell (Nat.le_refl _) _⟩
    | some t =>
      have HC:=hJ (fun W E=>kG8 hrt HK2.out W E);replace HR:Hid (res=match (if sm then kHP L2 [] else some []) with | none=>none | some ls=>kIK s ⟨ps,t,ls⟩):=hJ (by rw [HR.out,hrt]);have hvt:=(kDJ hrt).1;clear hrt
      go_wp2_with fail
      refine (HC.out _ HEw.out).mono ?_;rintro e w4 ⟨⟨ds,rfl,ty,rfl,⟨ay,cy,rfl,hy⟩⟩,hb4⟩;have hz4:=hb4.size;have HT:=hJ (Bx.fresh w4 26 [.string (t).elem,.string (t).shape.row,.slice ay (t).shape.dims.length cy]);have t0:=HT.out.cell 0 _ rfl;have t1:=HT.out.cell 1 _ rfl;have t2:=HT.out.cell 2 _ rfl;have HY:=hJ (hy.below ((Below.refl _ _).alloc (Nat.le_refl _) (.cells #[.string (t).elem,.string (t).shape.row,.slice ay (t).shape.dims.length cy] 26)));have HB5:=hJ (hb4.alloc hz4 (.cells #[.string (t).elem,.string (t).shape.row,.slice ay (t).shape.dims.length cy] 26));replace HBX:=hJ (HBX.out.below HB5.out HBX.out.lt);replace HRs:=hJ (HRs.out.below HB5.out HRs.out.lt);replace HBl:=hJ (HBl.out.trans (HB5.out.mono HBl.out.size));replace HSp:=hJ (HSp.out.below HB5.out);clear hb4 hy HC HEw;have v1:=HBX.out.cell 1 _ rfl;have v2:=HBX.out.cell 2 _ rfl;have v3:=HBX.out.cell 3 _ rfl;have f1:=HBX.out.fz 1;have f2:=HBX.out.fz 2;have f3:=HBX.out.fz 3;have hlo:=HBX.out.lt
      go_upto_if 82 with fail
      have hne:g≠w.heap.size:=by omega
      replace HBX:=hJ (((HBX.out.set 1 (.string t.elem)).set 2 (.string t.shape.row)).set 3 (.slice ay t.shape.dims.length cy));replace HRs:=hJ (((HRs.out.other (a:=⟨g,1,none⟩) (u:=.string t.elem) hne).other (a:=⟨g,2,none⟩) (u:=.string t.shape.row) hne).other (a:=⟨g,3,none⟩) (u:=.slice ay t.shape.dims.length cy) hne);replace HBl:=hJ (((HBl.out.setCell (show w.heap.size≤(⟨g,1,none⟩:Addr).block from Nat.le_of_lt hgw) (.string t.elem)).setCell (show w.heap.size≤(⟨g,2,none⟩:Addr).block from Nat.le_of_lt hgw) (.string t.shape.row)).setCell (show w.heap.size≤(⟨g,3,none⟩:Addr).block from Nat.le_of_lt hgw) (.slice ay t.shape.dims.length cy));replace HY:=hJ (((HY.out.frame (w':=World.setCell _ ⟨g,1,none⟩ (.string t.elem)) (fun k hk _=>kAB (by show g≠k;omega))).frame (w':=World.setCell _ ⟨g,2,none⟩ (.string t.shape.row)) (fun k hk _=>kAB (by show g≠k;omega))).frame (w':=World.setCell _ ⟨g,3,none⟩ (.slice ay t.shape.dims.length cy)) (fun k hk _=>kAB (by show g≠k;omega)));replace HSp:=hJ (((HSp.out.frame (w':=World.setCell _ ⟨g,1,none⟩ (.string t.elem)) (fun k hk _=>kAB (by show g≠k;omega))).frame (w':=World.setCell _ ⟨g,2,none⟩ (.string t.shape.row)) (fun k hk _=>kAB (by show g≠k;omega))).frame (w':=World.setCell _ ⟨g,3,none⟩ (.slice ay t.shape.dims.length cy)) (fun k hk _=>kAB (by show g≠k;omega)));replace HY:=hJ (HY.out.mono (S':=fun q=>g<q) (fun q hq _=>by omega));clear t0 t1 t2 HT v1 v2 v3 f1 f2 f3 HB5 hlo;generalize (((w4.alloc (.cells #[.string t.elem,.string t.shape.row,.slice ay t.shape.dims.length cy] 26)).setCell ⟨g,1,none⟩ (.string t.elem)).setCell ⟨g,2,none⟩ (.string t.shape.row)).setCell ⟨g,3,none⟩ (.slice ay t.shape.dims.length cy)=W6 at *
      go_cut [15] (fun v15 W=>∃ (ls:List Lin) (qa:Option Addr) (qc:Nat),v15= .bool sm∧Hid ((if sm then kHP L2 [] else some [])=some ls)∧Hid (∀ d ∈ ls,kAC d=true)∧Hid (Bx W g 29 [.slice pa ps.length pc,.string t.elem,.string t.shape.row,.slice ay t.shape.dims.length cy,.slice qa ls.length qc])∧Hid (Sl RTyp (fun q=>g<q) W pa ps.length pc ps)∧Hid (Sl RLin (fun q=>g<q) W ay t.shape.dims.length cy t.shape.dims)∧Hid (Sl RLin (fun q=>g<q) W qa ls.length qc ls)∧Hid (Bx W w.heap.size 29 [.slice none 0 0,.string ⟨#[]⟩,.string ⟨#[]⟩,.slice none 0 0,.slice none 0 0])∧Hid (Below w.heap.size w W))
      case first =>
       have hgW:=HBX.out.lt;cases sm with
       | false =>
         go_wp2_with fail
         go_meet
         exact ⟨[],none,0,rfl,hJ rfl,hJ (fun d hd=>by cases hd),HBX,HSp,HY,hJ (Sl.empty RLin _ _),HRs,HBl⟩
       | true =>
         have hL2:=HSL.out;have HEw:=hJ (HE.out.keep HBl.out h8);replace HBX:=hJ (HBX.out.alloc (.cells (L2.map Value.string).toArray 9));replace HRs:=hJ (HRs.out.alloc (.cells (L2.map Value.string).toArray 9));have HLt:=hJ (Bx.fresh W6 9 (L2.map Value.string));have hb7:=(Below.refl W6.heap.size W6).alloc (Nat.le_refl _) (.cells (L2.map Value.string).toArray 9);have hz6:w.heap.size≤W6.heap.size:=HBl.out.size;replace HBl:=hJ (HBl.out.alloc hz6 (.cells (L2.map Value.string).toArray 9));replace HSp:=hJ ((HSp.out.below hb7).mono (S':=fun q=>g<q∧q<(W6.alloc (.cells (L2.map Value.string).toArray 9)).heap.size) (fun q hq hl=>⟨hq,hl⟩));replace HY:=hJ ((HY.out.below hb7).mono (S':=fun q=>g<q∧q<(W6.alloc (.cells (L2.map Value.string).toArray 9)).heap.size) (fun q hq hl=>⟨hq,hl⟩));have hz7:=HLt.out.lt;obtain ⟨tot,hto⟩:∃ tot,tot=kHP L2 []:=⟨_,rfl⟩
         have HR2:Hid (tot=none→res=none):=hJ (fun h=>by rw [HR.out,if_pos rfl,← hto,h]);have HTo:=hJ hto.symm;have HTo0:=HTo;clear hto hb7
         go_wp2_with fail
         refine (HCS.out _ HEw.out).mono ?_;rintro e W0' ⟨rfl,rfl⟩;clear HCS HEw
         go_wp2_with fail
         generalize W6.alloc (.cells (L2.map Value.string).toArray 9)=W7 at *
         go_loopw [86] (fun i wr=>∃ (k:Nat) (ls:List Lin) (qa:Option Addr) (qm qc:Nat),k≤L2.length∧i= .int .i64 k∧ls.length≤k∧W7.heap.size≤wr.heap.size∧Hid (kHP (L2.drop k) ls=tot)∧Hid (∀ d ∈ ls,kAC d=true)∧Hid (Bx wr W6.heap.size 9 (L2.map Value.string))∧Hid (Bx wr g 29 [.slice pa ps.length pc,.string t.elem,.string t.shape.row,.slice ay t.shape.dims.length cy,.slice qa qm qc])∧Hid (Own RLin 45 (fun q=>W7.heap.size≤q) wr W7.heap.size (.slice qa qm qc) ls)∧Hid (Sl RTyp (fun q=>g<q∧q<W7.heap.size) wr pa ps.length pc ps)∧Hid (Sl RLin (fun q=>g<q∧q<W7.heap.size) wr ay t.shape.dims.length cy t.shape.dims)∧Hid (Bx wr w.heap.size 29 [.slice none 0 0,.string ⟨#[]⟩,.string ⟨#[]⟩,.slice none 0 0,.slice none 0 0])∧Hid (Below w.heap.size w wr)) (fun i _=>L2.length - (intOf i).toNat)
         case atStart=>exact ⟨0,[],none,0,0,Nat.zero_le _,rfl,Nat.le_refl _,Nat.le_refl _,HTo,hJ (fun t ht=>by cases ht),HLt,HBX,hJ (Own.nil _ _ _ _ _),HSp,HY,HRs,HBl⟩
         case round =>
          clear HBX HRs HBl HTo HSp HY HLt;obtain ⟨k,ls,qa,qm,qc,hk,rfl,hll,hwz,HRun,HV,HLt,HBX,HOwn,HSp,HY,HRs,HBl⟩:=hrel;by_cases hlt:k<L2.length
          · have y0:wr.cell? ⟨W6.heap.size,k,none⟩=some (.string (L2.getD k default)):=HLt.out.cell k _ (by rw [List.getElem?_map,getD_at hlt];rfl)
            have hxz:=HK3.out _ (kAJ hlt);have HDr:Hid (L2.drop k=L2.getD k default :: L2.drop (k+1)):=hJ (drop_at hlt);replace HRun:Hid ((if kEU (kA5 (kBW (L2.getD k default)) (L2.getD k default))=0 then kHP (L2.drop (k+1)) (ls++[kET (kA5 (kBW (L2.getD k default)) (L2.getD k default))]) else none)=tot):=hJ (by rw [← HRun.out,HDr.out,listL_cons]);clear HDr;generalize L2.getD k default=x at *;have HC2:=hJ (linear_Parse x hxz wr (HE.out.env.keep HBl.out h8));have HVl:=hJ (lossX_sz (kA5 (kBW x) x));generalize kEU (kA5 (kBW x) x)=er at *;generalize kET (kA5 (kBW x) x)=y at *
            go_wp2_with fail
            refine HC2.out.mono ?_;rintro e w4 ⟨⟨ds,rfl,ty,rfl,aw,cw,rfl,hy⟩,hb4⟩;have HT:=hJ (Bx.fresh w4 45 [.int .i64 y.const,.slice aw y.terms.length cw]);have t0:=HT.out.cell 0 _ rfl;have t1:=HT.out.cell 1 _ rfl;have hz4:=hb4.size;have HYy:Hid (Sl kBE (fun k=>wr.heap.size≤k) (w4.alloc (.cells #[.int .i64 y.const,.slice aw y.terms.length cw] 45)) aw y.terms.length cw y.terms):=hJ (hy.below ((Below.refl _ _).alloc (Nat.le_refl _) _));have HB5:Hid (Below wr.heap.size wr (w4.alloc (.cells #[.int .i64 y.const,.slice aw y.terms.length cw] 45))):=hJ (hb4.alloc hz4 _);have HOld:=HOwn;replace HBX:=hJ (HBX.out.below HB5.out HBX.out.lt);replace HOwn:=hJ (HOwn.out.below HB5.out);replace HLt:=hJ (HLt.out.below HB5.out HLt.out.lt);replace HSp:=hJ (HSp.out.below HB5.out);replace HY:=hJ (HY.out.below HB5.out);replace HRs:=hJ (HRs.out.below HB5.out HRs.out.lt);replace HBl:=hJ (HBl.out.trans (HB5.out.mono HBl.out.size));have v4:=HBX.out.cell 4 _ rfl;have fv4:=HBX.out.fz 4;clear hb4 hy HC2 y0;by_cases her:er=0
            · subst her
              have HNx:Hid (kHP (L2.drop (k+1)) (ls++[y])=tot):=hJ (by rw [← HRun.out,if_pos rfl]);have hvy:Hid (kAC y=true):=hJ (HVl.out rfl);clear HRun HVl
              go_wp2_with (at_builtin;refine kAZ kCA rfl _ _ rfl W7.heap.size _ _ rfl (HOwn.out.alloc _) _ y [.int .i64 y.const,.slice aw y.terms.length cw] rfl ⟨_,rfl,aw,cw,rfl,(HYy.out.below ((Below.refl _ _).alloc (Nat.le_refl _) _)).mono (fun q hq _=>⟨by omega,fun e=>by have:=(HOld.out.block e).2;omega⟩)⟩ (kA2 45 (by (simp only [kAL,kAH,Array.getElem?_push,Array.size_push];simp))) (by omega) (by unfold maxLen;omega) (by simp;omega) ?_;intro v9 w9 hown9 hb9 hk9;obtain ⟨a9,m9,c9,rfl⟩:=hown9.shape;have HX9:=hJ ((HBX.out.alloc _).kp hk9 (HOwn.out.ne (by omega)));have HP9:=hJ ((HLt.out.alloc _).kp hk9 (HOwn.out.ne (by omega)));have HR9:=hJ ((HRs.out.alloc _).kp hk9 (HOwn.out.ne (by omega)));have HS9:=hJ ((HSp.out.below ((Below.refl _ _).alloc (Nat.le_refl _) _)).frame (w':=w9) (fun q hq hl=>hk9.block q hl (HOwn.out.ne hq.2)));have HY9:=hJ ((HY.out.below ((Below.refl _ _).alloc (Nat.le_refl _) _)).frame (w':=w9) (fun q hq hl=>hk9.block q hl (HOwn.out.ne hq.2)));have z9:=HX9.out.cell 4 _ rfl;have f9:=HX9.out.fz 4;have hz9:=hb9.size)
              go_roundw
              case rel=>exact ⟨k+1,ls++[y],a9,m9,c9,by omega,by go_num,by rw [List.length_append];show ls.length+1≤_;omega,by have:=hz9;simp at this ⊢;omega,HNx,hJ (fun d hd=>(List.mem_append.mp hd).elim (HV.out d) (fun q=>by rw [List.mem_singleton.mp q];exact hvy.out)),hJ (HP9.out.other (by show g≠_;omega)),hJ (HX9.out.set 4 _),hJ (hown9.set _ (fun q hq=>by show q≠g;omega) (by show g<_;omega)),hJ (HS9.out.frame (fun q hq _=>kAB (by show g≠q;omega))),hJ (HY9.out.frame (fun q hq _=>kAB (by show g≠q;omega))),hJ (HR9.out.other (by show g≠_;omega)),hJ (((HBl.out.alloc HBl.out.size _).trans (hb9.mono (by omega))).setCell (by show _≤g;omega) _)⟩
              case measure=>simp [intOf];omega
            · have HF:Hid (res=none):=hJ (HR2.out (by rw [← HRun.out,if_neg her]))
              have n9:(er != 0)=true:=bne_iff_ne.2 her;clear HRun her;have z0:=HRs.out.cell 0 _ rfl;have z1:=HRs.out.cell 1 _ rfl;have z2:=HRs.out.cell 2 _ rfl;have z3:=HRs.out.cell 3 _ rfl;have z4:=HRs.out.cell 4 _ rfl;have f0:=HRs.out.fz 0;have f1:=HRs.out.fz 1;have f2:=HRs.out.fz 2;have f3:=HRs.out.fz 3;have f4:=HRs.out.fz 4;have hl0:=HRs.out.lt;have HZz:=hJ (((((HRs.out.set 0 (.slice none 0 0)).set 1 (.string ⟨#[]⟩)).set 2 (.string ⟨#[]⟩)).set 3 (.slice none 0 0)).set 4 (.slice none 0 0));have s0:=HZz.out.cell 0 _ rfl;have s1:=HZz.out.cell 1 _ rfl;have s2:=HZz.out.cell 2 _ rfl;have s3:=HZz.out.cell 3 _ rfl;have s4:=HZz.out.cell 4 _ rfl
              go_upto_region 26 with fail
              (try simp only []);repeat (first | go_values | go_skip | go_guarded | go_step | go_upon)
              refine bodyPost_ret (v:=.tuple #[.agg #[.slice none 0 0,.string ⟨#[]⟩,.string ⟨#[]⟩,.slice none 0 0,.slice none 0 0],.int .i64 6]) (by simp [results,results24,go_sem,s0,s1,s2,s3,s4,hl0]) rfl ?_;have HFr:Hid (∀ W,RSch.rd (fun k=>w.heap.size≤k) W [.slice none 0 0,.string ⟨#[]⟩,.string ⟨#[]⟩,.slice none 0 0,.slice none 0 0] (optS res)):=hJ (fun W=>by rw [HF.out];exact ⟨_,_,_,rfl,⟨none,0,rfl,Sl.empty RTyp _ _⟩,⟨none,0,rfl,Sl.empty RLin _ _⟩,⟨none,0,rfl,Sl.empty RLin _ _⟩⟩);exact ⟨⟨_,by rw [HF.out];rfl,HFr.out _⟩,((((HBl.out.setCell (Nat.le_refl _) _).setCell (Nat.le_refl _) _).setCell (Nat.le_refl _) _).setCell (Nat.le_refl _) _).setCell (Nat.le_refl _) _⟩
          · have hke:k=L2.length:=by omega
            have HLs:Hid (kHP L2 []=some ls):=hJ (by rw [HTo0.out,← HRun.out,List.drop_of_length_le (by omega)];rfl);obtain ⟨a9,c9,e9,hsl⟩:=HOwn.out.sl;rw [Value.slice.injEq] at e9;obtain ⟨rfl,rfl,rfl⟩:=e9
            go_wp2_with fail
            go_meet
            exact ⟨ls,qa,qc,rfl,hJ (by first | exact HLs.out | exact (if_pos trivial).trans HLs.out | simpa using HLs.out),HV,HBX,hJ (HSp.out.mono (fun q hq _=>hq.1)),hJ (HY.out.mono (fun q hq _=>hq.1)),hJ (hsl.mono (fun q hq _=>by rcases hq with q | q <;> omega)),HRs,HBl⟩
      case rest =>
       obtain ⟨ls,qa,qc,rfl,HLs,HVl,HBX,HSp,HY,HQ,HRs,HBl⟩:=hcut;generalize hwc:wc=W8 at *;clear hwc;replace HR:Hid (res=kIK s ⟨ps,t,ls⟩):=hJ (by rw [HR.out,HLs.out]);have HR3:Hid (res=if kAI ⟨ps,t,ls⟩ && (kBO ⟨ps,t,ls⟩).toList==s.toList then some ⟨ps,t,ls⟩ else none):=hJ HR.out;have hgW:=HBX.out.lt;have HRd:Hid (RSch.rd (fun q=>g<q) W8 [.slice pa ps.length pc,.string t.elem,.string t.shape.row,.slice ay t.shape.dims.length cy,.slice qa ls.length qc] ⟨ps,t,ls⟩):=hJ ⟨_,_,_,rfl,⟨pa,pc,rfl,HSp.out⟩,⟨ay,cy,rfl,HY.out⟩,⟨qa,qc,rfl,HQ.out⟩⟩;have HEr:=hJ (HE.out.env.keep HBl.out h8);have HC:=hJ (kDY HRd.out ⟨fun t ht=>typT_sz (HVp.out t ht),typT_sz hvt,fun d hd=>kHG (HVl.out d hd)⟩ HEr.out);have v0:=HBX.out.cell 0 _ rfl;have v1:=HBX.out.cell 1 _ rfl;have v2:=HBX.out.cell 2 _ rfl;have v3:=HBX.out.cell 3 _ rfl;have v4:=HBX.out.cell 4 _ rfl;clear HCS HSp HY HQ HLs HR;cases hv:kAI ⟨ps,t,ls⟩ with
       | false =>
         have HF:Hid (res=none):=hJ (by rw [HR3.out,hv];rfl);rw [hv,if_neg Bool.false_ne_true] at HC;generalize kBM ⟨ps,t,ls⟩=o at *;clear HRd HR3
         go_wp2_with fail
         refine (HC.out).mono ?_;rintro e w1 ⟨rfl,hb⟩;replace HRs:=hJ (HRs.out.below hb HRs.out.lt);replace HBl:=hJ (HBl.out.trans (hb.mono HBl.out.size));have z0:=HRs.out.cell 0 _ rfl;have z1:=HRs.out.cell 1 _ rfl;have z2:=HRs.out.cell 2 _ rfl;have z3:=HRs.out.cell 3 _ rfl;have z4:=HRs.out.cell 4 _ rfl;have f0:=HRs.out.fz 0;have f1:=HRs.out.fz 1;have f2:=HRs.out.fz 2;have f3:=HRs.out.fz 3;have f4:=HRs.out.fz 4;have hl0:=HRs.out.lt;have HZz:=hJ (((((HRs.out.set 0 (.slice none 0 0)).set 1 (.string ⟨#[]⟩)).set 2 (.string ⟨#[]⟩)).set 3 (.slice none 0 0)).set 4 (.slice none 0 0));have s0:=HZz.out.cell 0 _ rfl;have s1:=HZz.out.cell 1 _ rfl;have s2:=HZz.out.cell 2 _ rfl;have s3:=HZz.out.cell 3 _ rfl;have s4:=HZz.out.cell 4 _ rfl
         go_upto_region 31 with fail
         (try simp only []);repeat (first | go_values | go_skip | go_guarded | go_step | go_upon)
         refine bodyPost_ret (v:=.tuple #[.agg #[.slice none 0 0,.string ⟨#[]⟩,.string ⟨#[]⟩,.slice none 0 0,.slice none 0 0],.int .i64 6]) (by simp [results,results24,go_sem,s0,s1,s2,s3,s4,hl0]) rfl ?_;have HFr:Hid (∀ W,RSch.rd (fun k=>w.heap.size≤k) W [.slice none 0 0,.string ⟨#[]⟩,.string ⟨#[]⟩,.slice none 0 0,.slice none 0 0] (optS res)):=hJ (fun W=>by rw [HF.out];exact ⟨_,_,_,rfl,⟨none,0,rfl,Sl.empty RTyp _ _⟩,⟨none,0,rfl,Sl.empty RLin _ _⟩,⟨none,0,rfl,Sl.empty RLin _ _⟩⟩);exact ⟨⟨_,by rw [HF.out];rfl,HFr.out _⟩,((((HBl.out.setCell (Nat.le_refl _) _).setCell (Nat.le_refl _) _).setCell (Nat.le_refl _) _).setCell (Nat.le_refl _) _).setCell (Nat.le_refl _) _⟩
       | true =>
         have HPe:Hid (kBM ⟨ps,t,ls⟩=kBO ⟨ps,t,ls⟩):=hJ (by unfold kBM;rw [if_pos hv]);rw [hv,if_pos rfl,HPe.out] at HC;rw [hv] at HR3;generalize kBO ⟨ps,t,ls⟩=o at *
         go_wp2_with fail
         refine (HC.out).mono ?_;rintro e w2 ⟨rfl,hb⟩;have HB2:=hJ hb;replace v0:=(hb.cell (by show g<_;omega)).trans v0;replace v1:=(hb.cell (by show g<_;omega)).trans v1;replace v2:=(hb.cell (by show g<_;omega)).trans v2;replace v3:=(hb.cell (by show g<_;omega)).trans v3;replace v4:=(hb.cell (by show g<_;omega)).trans v4;replace HRs:=hJ (HRs.out.below HB2.out HRs.out.lt);replace HBl:=hJ (HBl.out.trans (HB2.out.mono HBl.out.size));cases ho:(o.toList==s.toList) with
         | false =>
           have HF:Hid (res=none):=hJ (by rw [HR3.out,ho];rfl);have z0:=HRs.out.cell 0 _ rfl;have z1:=HRs.out.cell 1 _ rfl;have z2:=HRs.out.cell 2 _ rfl;have z3:=HRs.out.cell 3 _ rfl;have z4:=HRs.out.cell 4 _ rfl;have f0:=HRs.out.fz 0;have f1:=HRs.out.fz 1;have f2:=HRs.out.fz 2;have f3:=HRs.out.fz 3;have f4:=HRs.out.fz 4;have hl0:=HRs.out.lt;have HZz:=hJ (((((HRs.out.set 0 (.slice none 0 0)).set 1 (.string ⟨#[]⟩)).set 2 (.string ⟨#[]⟩)).set 3 (.slice none 0 0)).set 4 (.slice none 0 0));have s0:=HZz.out.cell 0 _ rfl;have s1:=HZz.out.cell 1 _ rfl;have s2:=HZz.out.cell 2 _ rfl;have s3:=HZz.out.cell 3 _ rfl;have s4:=HZz.out.cell 4 _ rfl
           go_upto_region 31 with fail
           (try simp only []);repeat (first | go_values | go_skip | go_guarded | go_step | go_upon)
           refine bodyPost_ret (v:=.tuple #[.agg #[.slice none 0 0,.string ⟨#[]⟩,.string ⟨#[]⟩,.slice none 0 0,.slice none 0 0],.int .i64 6]) (by simp [results,results24,go_sem,s0,s1,s2,s3,s4,hl0]) rfl ?_;have HFr:Hid (∀ W,RSch.rd (fun k=>w.heap.size≤k) W [.slice none 0 0,.string ⟨#[]⟩,.string ⟨#[]⟩,.slice none 0 0,.slice none 0 0] (optS res)):=hJ (fun W=>by rw [HF.out];exact ⟨_,_,_,rfl,⟨none,0,rfl,Sl.empty RTyp _ _⟩,⟨none,0,rfl,Sl.empty RLin _ _⟩,⟨none,0,rfl,Sl.empty RLin _ _⟩⟩);exact ⟨⟨_,by rw [HF.out];rfl,HFr.out _⟩,((((HBl.out.setCell (Nat.le_refl _) _).setCell (Nat.le_refl _) _).setCell (Nat.le_refl _) _).setCell (Nat.le_refl _) _).setCell (Nat.le_refl _) _⟩
         | true =>
           have HF:Hid (res=some ⟨ps,t,ls⟩):=hJ (by rw [HR3.out,ho];rfl);have z0:=HRs.out.cell 0 _ rfl;have z1:=HRs.out.cell 1 _ rfl;have z2:=HRs.out.cell 2 _ rfl;have z3:=HRs.out.cell 3 _ rfl;have z4:=HRs.out.cell 4 _ rfl;have f0:=HRs.out.fz 0;have f1:=HRs.out.fz 1;have f2:=HRs.out.fz 2;have f3:=HRs.out.fz 3;have f4:=HRs.out.fz 4;have hl0:=HRs.out.lt
           go_upto_region 32 with fail
           (try simp only []);repeat (first | go_values | go_skip | go_guarded | go_step | go_upon)
           have HZz:=hJ (((((HRs.out.set 0 (.slice pa ps.length pc)).set 1 (.string t.elem)).set 2 (.string t.shape.row)).set 3 (.slice ay t.shape.dims.length cy)).set 4 (.slice qa ls.length qc));have s0:=HZz.out.cell 0 _ rfl;have s1:=HZz.out.cell 1 _ rfl;have s2:=HZz.out.cell 2 _ rfl;have s3:=HZz.out.cell 3 _ rfl;have s4:=HZz.out.cell 4 _ rfl;refine bodyPost_ret (v:=.tuple #[.agg #[.slice pa ps.length pc,.string t.elem,.string t.shape.row,.slice ay t.shape.dims.length cy,.slice qa ls.length qc],.int .i64 0]) (by simp [results,results24,go_sem,s0,s1,s2,s3,s4,hl0]) rfl ?_;have hfr:∀ (W:World) (j:Nat) (u:Value) (q:Nat),g<q→(W.setCell ⟨w.heap.size,j,none⟩ u).heap[q]? =W.heap[q]? :=fun W j u q hq=>kAB (by show w.heap.size≠q;omega)
           exact ⟨⟨_,by rw [HF.out];rfl,by rw [HF.out];exact RSch.mono (RSch.frame (RSch.frame (RSch.frame (RSch.frame (RSch.frame (RSch.below HRd.out HB2.out) (fun q hq _=>hfr _ 0 _ q hq)) (fun q hq _=>hfr _ 1 _ q hq)) (fun q hq _=>hfr _ 2 _ q hq)) (fun q hq _=>hfr _ 3 _ q hq)) (fun q hq _=>hfr _ 4 _ q hq)) (fun q hq _=>by show w.heap.size≤q;omega)⟩,((((HBl.out.setCell (Nat.le_refl _) _).setCell (Nat.le_refl _) _).setCell (Nat.le_refl _) _).setCell (Nat.le_refl _) _).setCell (Nat.le_refl _) _⟩
 · have HF:Hid (res=none):=hJ (by rw [HR.out,if_neg hok])
   clear HR;cases ok1:cut3 s arrS with
   | false =>
     clear hok;have z0:=HRs.out.cell 0 _ rfl;have z1:=HRs.out.cell 1 _ rfl;have z2:=HRs.out.cell 2 _ rfl;have z3:=HRs.out.cell 3 _ rfl;have z4:=HRs.out.cell 4 _ rfl;have f0:=HRs.out.fz 0;have f1:=HRs.out.fz 1;have f2:=HRs.out.fz 2;have f3:=HRs.out.fz 3;have f4:=HRs.out.fz 4;have hl0:=HRs.out.lt;have HZz:=hJ (((((HRs.out.set 0 (.slice none 0 0)).set 1 (.string ⟨#[]⟩)).set 2 (.string ⟨#[]⟩)).set 3 (.slice none 0 0)).set 4 (.slice none 0 0));have s0:=HZz.out.cell 0 _ rfl;have s1:=HZz.out.cell 1 _ rfl;have s2:=HZz.out.cell 2 _ rfl;have s3:=HZz.out.cell 3 _ rfl;have s4:=HZz.out.cell 4 _ rfl
     go_upto_region 4 with fail
     (try simp only []);repeat (first | go_values | go_skip | go_guarded | go_step | go_upon)
     refine bodyPost_ret (v:=.tuple #[.agg #[.slice none 0 0,.string ⟨#[]⟩,.string ⟨#[]⟩,.slice none 0 0,.slice none 0 0],.int .i64 6]) (by simp [results,results24,go_sem,s0,s1,s2,s3,s4,hl0]) rfl ?_;have HFr:Hid (∀ W,RSch.rd (fun k=>w.heap.size≤k) W [.slice none 0 0,.string ⟨#[]⟩,.string ⟨#[]⟩,.slice none 0 0,.slice none 0 0] (optS res)):=hJ (fun W=>by rw [HF.out];exact ⟨_,_,_,rfl,⟨none,0,rfl,Sl.empty RTyp _ _⟩,⟨none,0,rfl,Sl.empty RLin _ _⟩,⟨none,0,rfl,Sl.empty RLin _ _⟩⟩);exact ⟨⟨_,by rw [HF.out];rfl,HFr.out _⟩,((((HBl.out.setCell (Nat.le_refl _) _).setCell (Nat.le_refl _) _).setCell (Nat.le_refl _) _).setCell (Nat.le_refl _) _).setCell (Nat.le_refl _) _⟩
   | true =>
     cases ok2:hasP (cut1 s arrS) parS with
     | false =>
       clear hok;have z0:=HRs.out.cell 0 _ rfl;have z1:=HRs.out.cell 1 _ rfl;have z2:=HRs.out.cell 2 _ rfl;have z3:=HRs.out.cell 3 _ rfl;have z4:=HRs.out.cell 4 _ rfl;have f0:=HRs.out.fz 0;have f1:=HRs.out.fz 1;have f2:=HRs.out.fz 2;have f3:=HRs.out.fz 3;have f4:=HRs.out.fz 4;have hl0:=HRs.out.lt;have HZz:=hJ (((((HRs.out.set 0 (.slice none 0 0)).set 1 (.string ⟨#[]⟩)).set 2 (.string ⟨#[]⟩)).set 3 (.slice none 0 0)).set 4 (.slice none 0 0));have s0:=HZz.out.cell 0 _ rfl;have s1:=HZz.out.cell 1 _ rfl;have s2:=HZz.out.cell 2 _ rfl;have s3:=HZz.out.cell 3 _ rfl;have s4:=HZz.out.cell 4 _ rfl
       go_upto_region 4 with fail
       (try simp only []);repeat (first | go_values | go_skip | go_guarded | go_step | go_upon)
       refine bodyPost_ret (v:=.tuple #[.agg #[.slice none 0 0,.string ⟨#[]⟩,.string ⟨#[]⟩,.slice none 0 0,.slice none 0 0],.int .i64 6]) (by simp [results,results24,go_sem,s0,s1,s2,s3,s4,hl0]) rfl ?_;have HFr:Hid (∀ W,RSch.rd (fun k=>w.heap.size≤k) W [.slice none 0 0,.string ⟨#[]⟩,.string ⟨#[]⟩,.slice none 0 0,.slice none 0 0] (optS res)):=hJ (fun W=>by rw [HF.out];exact ⟨_,_,_,rfl,⟨none,0,rfl,Sl.empty RTyp _ _⟩,⟨none,0,rfl,Sl.empty RLin _ _⟩,⟨none,0,rfl,Sl.empty RLin _ _⟩⟩);exact ⟨⟨_,by rw [HF.out];rfl,HFr.out _⟩,((((HBl.out.setCell (Nat.le_refl _) _).setCell (Nat.le_refl _) _).setCell (Nat.le_refl _) _).setCell (Nat.le_refl _) _).setCell (Nat.le_refl _) _⟩
     | true=>exact absurd (by rw [ok1,ok2];rfl) hok
structure IfcOk (x:Ifc):Prop where
 mod:isNameB x.module_=true
 len:x.entries.length≤60
 ents:∀ e ∈ x.entries,isNameB e.name=true∧kAI e.scheme=true
open Go.RowKit Go.Shelf
attribute [local go_sem] Oper.semAt_some
theorem splitB_mem (p:Str):∀ (k:Nat) (s:Str),∀ x ∈ Lib.splitB p 0 k s,x.size≤s.size
 | 0,s,x,h=>by
   rw [List.mem_singleton.1 h];exact Nat.le_refl _
 | k+1,s,x,h=>by
   unfold Lib.splitB at h
   split at h
   · rw [List.mem_singleton.1 h];exact Nat.le_refl _
   · rcases List.mem_cons.1 h with rfl | h
     · rw [ByteArray.size_extract];omega
     · have:=splitB_mem p k _ x h
       rw [ByteArray.size_extract] at this;omega
theorem kH3 {s p x:Str} (h:x ∈ kBU s p):x.size≤s.size:=splitB_mem p _ s x h
theorem cutE_le (s p:Str):(cutE s p).size≤s.size:=cutE_size s p
theorem innerH_le (s:Str):(kB3 s).size≤s.size:=Nat.le_trans (cutE_le _ _) (cutP_size _ _)
theorem kHJ {y:Str} (h:y.size≤300):TOk y:=⟨by omega,fun x hx=>by
 have h1:=kH3 hx;have h2:=innerH_le (y.extract 0 (kDV y));rw [ByteArray.size_extract] at h2;omega⟩
theorem parF_mem (s:Str):∀ k,∀ x ∈ (parF s k).2,x.size≤s.size
 | 0,x,h=>by cases h
 | k+1,x,h=>by
   unfold parF at h
   split at h
   · rcases List.mem_append.1 h with q | q
     · exact parF_mem s k x q
     · rw [List.mem_singleton.1 q,ByteArray.size_extract];omega
   · exact parF_mem s k x h
theorem paramsM_mem {s x:Str} (h:x ∈ kDD s):x.size≤s.size:=by
 unfold kDD at h;rcases List.mem_append.1 h with q | q
 · exact parF_mem s _ x q
 · rw [List.mem_singleton.1 q,ByteArray.size_extract];omega
theorem small_SOk {s:Str} (h:s.size≤300):SOk s:=by
 have h1:=cut1_size s arrS;have h2:=kKD s arrS;have h3:=cut1_size (cut2 s arrS) whrS;have h4:=kKD (cut2 s arrS) whrS;have h5:(kGH s).size≤(cut1 s arrS).size:=cutP_size _ _;exact ⟨by omega,fun y hy=>kHJ (by have:=paramsM_mem hy;omega),kHJ (by omega),fun y hy=>by have:=kH3 hy;omega⟩
theorem body_size {n:Nat} {v:Str} (h:PartOk n v):(kA7 n v).size≤37:=by
 unfold kA7;rw [ByteArray.size_append]
 have h1:(numS n v).size≤7:=by
  unfold numS
  split
  · exact Nat.zero_le _
  · exact (kG1 h.hi).2
 have h2:v.size≤30:=by
  cases he:v.toList.isEmpty with
  | true=>rw [kD8 he];exact Nat.zero_le _
  | false=>exact kCP (h.name he).1
 omega
theorem tail_size:∀ (l:List (Int × Str)),(∀ p ∈ l,PairOk p)→(kBY l).size≤38 * l.length
 | [],_=>Nat.zero_le _
 | p :: l,h=>by
   have h1:=body_size (h p (List.mem_cons_self ..));have h2:=tail_size l (fun q hq=>h q (List.mem_cons_of_mem _ hq))
   show (sgnS p.1++(kA7 p.1.natAbs p.2++kBY l)).size≤_
   rw [ByteArray.size_append,ByteArray.size_append,kGR,List.length_cons];omega
theorem printL_500 {x:Lin} (h:kAC x=true):(kAF x).size≤500:=by
 obtain ⟨p,l,e1,e2⟩:=kHN h;have hk:=pcs_ok h;have hl:=(pcs_len h).2;rw [e1] at hk hl;rw [List.length_cons] at hl;have h1:=body_size (hk p (List.mem_cons_self ..));have h2:=tail_size l (fun q hq=>hk q (List.mem_cons_of_mem _ hq));have h3:(kC5 p.1).size≤1:=by unfold kC5;split <;> decide
 rw [e2,ByteArray.size_append,ByteArray.size_append];omega
theorem parts_500 {x:Shp} (h:kAG x=true):∀ y ∈ rowL x++x.dims.map kAF,y.size≤500:=fun y hy=>by
 rcases List.mem_append.1 hy with q | q
 · unfold rowL at q
   split at q
   · cases q
   · rw [List.mem_singleton.1 q,ByteArray.size_append]
     have:x.row.size≤30:=by
      rcases row_name h with g | g
      · rw [kD8 g];exact Nat.zero_le _
      · exact kCP g
     show x.row.size+2≤_
     omega
 · obtain ⟨d,hd,rfl⟩:=List.mem_map.1 q
   exact printL_500 ((kCK h).2 d hd)
theorem textH_4000 {x:Shp} (h:kAG x=true):(kA3 x).size≤4000:=by
 have h1:=kDN (M:=500) _ comS (parts_500 h);have h2:=rowL_len x;have h3:=(kCK h).1;rw [List.length_append,List.length_map,show comS.size=2 from rfl] at h1;have h4:((rowL x).length+x.dims.length) * (500+2)≤7 * 502:=Nat.mul_le_mul (by omega) (by omega);unfold kA3;rw [ByteArray.size_append,ByteArray.size_append]
 show 1+(kAO (rowL x++x.dims.map kAF) comS).size+1≤_
 omega
theorem textT_5000 {t:Typ} (h:kAD t=true):(kAQ t).size≤5000:=by
 obtain ⟨h1,h2⟩:=kDE h;have:=elemB_sz h1;have:=textH_4000 h2;rcases kD0 h with ⟨_,e⟩ | e
 · rw [e];omega
 · rw [e,ByteArray.size_append];omega
theorem text_TOk {t:Typ} (h:kAD t=true):TOk (kAQ t):=by
 obtain ⟨h1,h2⟩:=kDE h;refine ⟨by have:=textT_5000 h;omega,fun x hx=>?_⟩;rcases kD0 h with ⟨_,e⟩ | e
 · have h1:=kH3 hx
   have h2:=innerH_le ((kAQ t).extract 0 (kDV (kAQ t)));rw [ByteArray.size_extract,e] at h2;have:=elemB_sz (kDE h).1;rw [e] at h1;omega
 · have hk:kDV (kAQ t)=(kA3 t.shape).size:=by
    obtain ⟨i,f1,f2,_⟩:=kF0 h2;have e3:kAQ t=((⟨#[91]⟩:Str)++i)++((⟨#[93]⟩:Str)++t.elem):=by rw [e,f1];simp only [ByteArray.append_assoc]
    have hb:∀ j,j<((⟨#[91]⟩:Str)++i).size→bt ((⟨#[91]⟩:Str)++i) j≠93:=fun j hj=>by
     rw [ByteArray.size_append,show (⟨#[91]⟩:Str).size=1 from rfl] at hj;rcases Nat.eq_zero_or_pos j with rfl | q
     · rw [kBL (by decide)];decide
     · obtain ⟨m,rfl⟩:∃ m,j=1+m:=⟨j - 1,by omega⟩
       have:=kC1 (a:=(⟨#[91]⟩:Str)) (b:=i) (k:=m) (by omega);rw [show (⟨#[91]⟩:Str).size=1 from rfl] at this;rw [this];exact (f2 m (by omega)).1
    rw [e3,firstK_at hb,f1,← ByteArray.append_assoc,ByteArray.size_append (b:=(⟨#[93]⟩:Str))];rfl
   rw [hk,e,kFQ,split_parts h2] at hx
   split at hx
   · rw [List.mem_singleton.1 hx];exact Nat.zero_le _
   · have:=parts_500 h2 x hx;omega
theorem join_bound {l:List Str} {M N:Nat} (h:∀ y ∈ l,y.size≤M) (hl:l.length≤N):(kAO l comS).size≤N * (M+2):=by
 have h1:=kDN (M:=M) l comS h;rw [show comS.size=2 from rfl] at h1;exact Nat.le_trans h1 (Nat.mul_le_mul_right _ hl)
theorem text_SOk {x:Sch} (hv:kAI x=true):SOk (kBO x)∧(kBO x).size≤150000:=by
 have h:=sch_ok hv;obtain ⟨hp12,hw60,_⟩:=kAY hv;obtain ⟨p1,p2,p3,p4,p5,p6,p7⟩:=parts_text hv
 have hps:∀ y ∈ x.params.map kAQ,TOk y:=fun y hy=>by
  obtain ⟨t,ht,rfl⟩:=List.mem_map.1 hy;exact text_TOk (h.ps t ht)
 have hws:∀ y ∈ x.wh.map kAF,y.size≤500:=fun y hy=>by
  obtain ⟨d,hd,rfl⟩:=List.mem_map.1 hy;exact printL_500 (h.wh d hd)
 have hsz:(kBO x).size≤150000:=by
  have b1:(kAO (x.params.map kAQ) comS).size≤12 * (5000+2):=join_bound (fun y hy=>by
   obtain ⟨t,ht,rfl⟩:=List.mem_map.1 hy;exact textT_5000 (h.ps t ht)) (by rw [List.length_map];exact hp12)
  have b2:(kAO (x.wh.map kAF) comS).size≤60 * (500+2):=join_bound hws (by rw [List.length_map];exact hw60);have b3:=textT_5000 h.res
  have b4:(kG6 x).size≤7+(kAO (x.wh.map kAF) comS).size:=by
   unfold kG6
   split
   · rw [ByteArray.size_append];exact Nat.le_refl _
   · exact Nat.zero_le _
  rw [textS_form,ByteArray.size_append,ByteArray.size_append,ByteArray.size_append,ByteArray.size_append,show parS.size=1 from rfl,show arrS.size=5 from rfl];omega
 refine ⟨⟨by omega,fun y hy=>?_,by rw [p5];exact text_TOk h.res,fun y hy=>?_⟩,hsz⟩
 · rw [p3] at hy
   have hpc:=kGZ h;cases hl:x.params.map kAQ with
   | nil =>
     rw [hl,kGG] at hy;exact kHJ (by have:=paramsM_mem hy;have e:(⟨#[]⟩:Str).size=0:=rfl;omega)
   | cons t l =>
     rw [hl] at hy hpc hps;rw [params_back hpc] at hy;exact hps y hy
 · rw [p7] at hy
   have hl:=wh_linC h;cases hw:x.wh.map kAF with
   | nil =>
     rw [hw,kGG] at hy;have:=kH3 hy;have e:(⟨#[]⟩:Str).size=0:=rfl;omega
   | cons d l =>
     rw [hw] at hy hl hws;rw [kH2 (c:=44) (t:=[32]) rfl _ _ (fun y hy j hj=>(hl y hy).1.ne (by decide) hj)] at hy;have:=hws y hy;omega
theorem elemLin_zero:∃ z:Value,(∀ w,(zeroValue 45).run Tryz.prog w= .ok z w)∧z.cells.size=2∧∀ v ∈ z.cells.toList,v.oneCell'=true:=⟨.agg #[.int .i64 0,.slice none 0 0],fun w=>by kernel_rfl,rfl,by intro v hv;simp [Value.cells] at hv;rcases hv with rfl | rfl <;> rfl⟩
theorem kJR (w:World) (g o n c:Nat) (hn:0<n) (hc:∀ j,j<n * 2→(w.cell? ⟨g,o+j,none⟩).isSome=true) (hf:∀ j,j<n * 2→w.frozen? ⟨g,o+j,none⟩=false) :
 ∃ vs:List Value,∀ ty:TypeId,(Builtin.clear_ #[22] ty #[.slice (some ⟨g,o,none⟩) n c]).run Tryz.prog w= .ok (.tuple #[]) (w.setCells g o vs):=by
 obtain ⟨z,hz,hs,h1⟩:=elemLin_zero;have hlen:(Builtin.zeroCells z.cells n).toList.length=n * 2:=by simp [Builtin.zeroCells,hs]
 have hone:∀ v ∈ (Builtin.zeroCells z.cells n).toList,v.oneCell'=true:=fun v hv=>by
  simp only [Builtin.zeroCells,Array.toList_map,List.mem_map] at hv;obtain ⟨i,_,rfl⟩:=hv;have hlt:i % z.cells.size<z.cells.size:=Nat.mod_lt _ (by omega);rw [getElem!_pos z.cells _ hlt];exact h1 _ (by rw [← Array.getElem_toList];exact List.getElem_mem _)
 have hst:=run_storeCells_cells (P:=Tryz.prog) g o (Builtin.zeroCells z.cells n).toList 0 w (by rw [hlen];simpa using hc) (by rw [hlen];simpa using hf) hone;simp only [Nat.add_zero] at hst;obtain ⟨m,rfl⟩:∃ m,n=m+1:=⟨n - 1,by omega⟩
 exact ⟨_,fun ty=>by simp [Builtin.clear_,run_underlying underlying22,hz,hst];rfl⟩
theorem Raw.some_cell {k:Nat} {E:TypeId} {w:World} {g:Nat} {css:List (List Value)} {rest:List Value} (h:Raw k E w g css rest) {o:Nat} (ho:o<css.length * k+rest.length):(w.cell? ⟨g,o,none⟩).isSome=true:=by
 have hl:o<(css.flatten++rest).length:=by rw [List.length_append,kBK h.len];exact ho
 rw [h.bx.cell o _ (List.getElem?_eq_getElem hl)];rfl
theorem keep_filter (p:Lin→Bool) (l:List Lin):kept (fun i=> !p (l.getD i default)) l l.length=l.filter (fun x=> !p x):=by
 have:=kept_filter (fun x=> !p x) l l.length (Nat.le_refl _)
 rwa [List.take_length] at this
theorem delete_Lin {S:Blk} {w:World} {base:Nat} {v:Value} {l:List Lin} (h:Own RLin 45 S w base v l) (hbase:base≤w.heap.size) (hn:l.length≤1000) (g:FuncId) (hen:Ent1 g) (p:Lin→Bool)
 (hp:∀ (S':Blk) (W:World) (x:Lin) (cs:List Value),RLin.rd S' W cs x→Calls Tryz.prog g #[.agg cs.toArray] W fun e w'=>e= .returned (.bool (p x))∧Below W.heap.size W w') :
 Calls Tryz.prog 90 #[v,.func (.func g) #[] #[]] w fun e w'=>(∃ v',e= .returned v'∧Own RLin 45 S w' base v' (l.filter (fun x=> !p x))∧Kl v v' w w')∧Below base w w':=by
 obtain ⟨a,c,rfl,hsl⟩:=h.sl;have HIx:=hJ (index_Lin l a l.length c w hsl g #[] hen p (fun W x cs hb _ hr=>hp _ W x cs hr));by_cases hany:l.any p=true
 case neg =>
  have hidx:idx p l= -1:=by unfold idx;rw [if_neg hany]
  have HF:Hid (l.filter (fun x=> !p x)=l):=hJ (by
   rw [List.filter_eq_self];intro x hx;have:l.any p=false:=by simpa using hany
   rw [List.any_eq_false] at this
   simpa using this x hx)
  rw [hidx] at HIx;have HO:=hJ h;clear h hsl hany hidx hp;generalize hln:l.length=n at *;go_enter func90,ntmps90
  go_wp2_with fail
  refine HIx.out.mono ?_;rintro e w1 ⟨rfl,hb1⟩
  go_wp2_with fail
  go_ret;exact ⟨⟨_,rfl,by rw [HF.out];exact HO.out.below hb1,Kl.below hb1⟩,hb1.mono hbase⟩
 obtain ⟨hi0,hpi0⟩:=any_hit hany
 have hbef:∀ j,j<l.findIdx p→p (l.getD j default)=false:=fun j hj=>by
  have:=List.not_of_lt_findIdx hj;rw [List.getD_eq_getElem?_getD,List.getElem?_eq_getElem (by omega)]
  simpa using this
 have hidx:idx p l=(l.findIdx p:Int):=by unfold idx;rw [if_pos hany]
 rw [hidx] at HIx;generalize l.findIdx p=i0 at *;have hl:0<l.length:=by omega
 have hk0:KeepAt (fun i=> !p (l.getD i default)) l l i0:=KeepAt.same (by omega) (fun j hj=>by show (!p _)=true;rw [hbef j hj];rfl);have hk1:=hk0.skip (by show (!p (l.getD i0 default))=false;rw [hpi0];rfl)
 have hkl:(kept (fun i=> !p (l.getD i default)) l (i0+1)).length=i0:=by
  rw [kCG,if_neg (by rw [hpi0];decide),kept_all _ _ _ (by omega) (fun j hj=>by show (!p _)=true;rw [hbef j hj];rfl),List.length_take];omega
 have HK0:=hJ hk1;have HKl:=hJ hkl;obtain ⟨gb,c2,css0,rest0,hv,hgb,hR,hL,hlc,hcm,hsz⟩:=h.raw hl;rw [Value.slice.injEq] at hv;obtain ⟨rfl,-,rfl⟩:=hv;have HR0:=hJ hR;have HL0:=hJ hL;have HS0:=hJ hsz;have HP:=hJ hp;have HFin:=hJ (keep_filter p l);have hgl:=hR.lt;clear h hsl hany hidx hbef hk0 hk1 hkl hR hL hsz hp hpi0;generalize hln:l.length=n at *;have HN:=hJ hln;clear hln;go_enter func90,ntmps90
 go_wp2_with fail
 refine HIx.out.mono ?_;rintro e w1 ⟨rfl,hb1⟩;have hne:((i0:Int)== -1)=false:=beq_eq_false_iff_ne.2 (by omega);have HR1:=hJ (HR0.out.below hb1 hgl);have HL1:=hJ (HL0.out.below hb1);have hB1:=(Kb.refl gb w).later hb1;clear HIx
 go_wp2_with fail
 go_loopw [5,6] (fun iv jv wr=>∃ (j k:Nat) (M:List Lin) (css:List (List Value)) (rest:List Value),j≤n∧k<j∧iv= .int .i64 k∧jv= .int .i64 j∧Hid ((kept (fun i=> !p (l.getD i default)) l j).length=k)∧Hid (KeepAt (fun i=> !p (l.getD i default)) l M j)∧Hid (Raw 2 45 wr gb css rest)∧Hid (Lies RLin S wr gb css M)∧Hid (css.length * 2+rest.length=c * 2)∧Kb gb w wr) (fun _ jv _=>n - (intOf jv).toNat)
 case atStart=>exact ⟨i0+1,i0,_,_,_,by omega,by omega,rfl,by go_num,HKl,HK0,HR1,HL1,HS0,hB1⟩
 case round =>
  obtain ⟨j,k,M,css,rest,hj,hk,rfl,rfl,HKl,HK,HR,HL,HS,hB⟩:=hrel;have HMl:Hid (M.length=n):=hJ (by rw [HK.out.len];exact HN.out);have hsz:=hB.size;by_cases hlt:j<n
  · have hjM:j<M.length:=by rw [HMl.out];exact hlt
    obtain ⟨csx,hix,hrx⟩:=HL.out.at_ hjM;rw [HK.out.at_ j (Nat.le_refl _)] at hrx;have HSk:Hid (p (l.getD j default)=true→KeepAt (fun i=> !p (l.getD i default)) l M (j+1)∧(kept (fun i=> !p (l.getD i default)) l (j+1)).length=k):=hJ (fun q=>⟨HK.out.skip (by show (!p _)=false;rw [q];rfl),by rw [kCG,if_neg (by rw [q];decide)];exact HKl.out⟩);have HPt:Hid (p (l.getD j default)=false→KeepAt (fun i=> !p (l.getD i default)) l (M.set k (l.getD j default)) (j+1)∧(kept (fun i=> !p (l.getD i default)) l (j+1)).length=k+1):=hJ (fun q=>⟨by have:=HK.out.put (by rw [HN.out];exact hlt) (by show (!p _)=true;rw [q];rfl);rwa [HKl.out] at this,by rw [kCG,if_pos (by rw [q];rfl),List.length_append,HKl.out];rfl⟩);have hcl:css.length=n:=by rw [HL.out.1];exact HMl.out
    have hkM:k<M.length:=by omega
    obtain ⟨csk,hik,hrk⟩:=HL.out.at_ hkM;obtain ⟨_,rfl,ak,ck,rfl,_⟩:=hrk;have HIK:=hJ hik;have HCl:=hJ hcl;clear hik hcl hkM;generalize l.getD j default=x at *;obtain ⟨_,rfl,ax,cx,rfl,hsx⟩:=hrx;have x0:=HR.out.cell hix 0 _ rfl;have x1:=HR.out.cell hix 1 _ rfl;rw [Nat.add_zero] at x0;have HX:=hJ (⟨_,rfl,ax,cx,rfl,hsx⟩:RLin.rd (fun q=>S q∧q≠gb) wr [.int .i64 x.const,.slice ax x.terms.length cx] x);clear hix hsx hjM;have HA:Hid (Below wr.heap.size wr (wr.alloc (.cells #[.int .i64 x.const,.slice ax x.terms.length cx] 45))):=hJ ((Below.refl _ _).alloc (Nat.le_refl _) _);have HC:=hJ (HP.out _ _ x _ (RLin.below HX.out HA.out));have HBx:=hJ (Bx.fresh wr 45 [.int .i64 x.const,.slice ax x.terms.length cx]);generalize M.getD k default=y at *;cases hpx:p x with
    | true =>
      rw [hpx] at HC;have HSk:=hJ (HSk.out hpx);clear hpx HPt
      go_wp2_with (go_at_fn g;refine HC.out.mono ?_;rintro e w4 ⟨rfl,hb4⟩)
      have HB4:=hJ (HA.out.trans (hb4.mono HA.out.size));go_roundw
      case rel=>exact ⟨j+1,k,M,css,rest,by omega,by omega,rfl,by go_num,hJ HSk.out.2,hJ HSk.out.1,hJ (HR.out.below HB4.out HR.out.lt),hJ (HL.out.below HB4.out),HS,hB.later HB4.out⟩
      case measure=>simp [intOf];omega
    | false =>
      rw [hpx] at HC;have HPt:=hJ (HPt.out hpx);clear hpx HSk;have hkn:(k:Int)<(n:Int):=by omega
      go_wp2_with (go_at_fn g;refine HC.out.mono ?_;rintro e w4 ⟨rfl,hb4⟩;have HB4:=hJ (HA.out.trans (hb4.mono HA.out.size));have HR4:=hJ (HR.out.below HB4.out HR.out.lt);have k0:=HR4.out.cell HIK.out 0 _ rfl;have k1:=HR4.out.cell HIK.out 1 _ rfl;rw [Nat.add_zero] at k0;have f0:=HR4.out.fz (k * 2);have f1:=HR4.out.fz (k * 2+1);have HP4:=hJ (HBx.out.below hb4 (by simp));have p0:=HP4.out.cell 0 _ rfl;have p1:=HP4.out.cell 1 _ rfl)
      go_roundw
      case rel=>exact ⟨j+1,k+1,M.set k x,_,rest,by omega,by omega,by go_num,by go_num,hJ HPt.out.2,hJ HPt.out.1,hJ (HR4.out.put2 (i:=k) (by rw [HCl.out];omega) _ _),hJ ((((HL.out.below HB4.out).self _ _).self _ _).set k (RLin.frame (RLin.below HX.out HB4.out) (fun q hq _=>(kAB (fun e=>hq.2 e.symm)).trans (kAB (fun e=>hq.2 e.symm))))),hJ (by rw [List.length_set];exact HS.out),((hB.later HB4.out).set _ _).set _ _⟩
      case measure=>simp [intOf];omega
  · obtain rfl:j=n:=by omega
    have hcl:css.length=j:=by rw [HL.out.1];exact HMl.out
    obtain ⟨vs,hclr⟩:=kJR wr gb (k * 2) (j - k) (c - k) (by omega) (fun i hi=>HR.out.some_cell (by rw [hcl];have:=HS.out;omega)) (fun i hi=>HR.out.fz _);obtain ⟨rest',hR',hr'⟩:=Raw.setCells vs (HR.out.take k) (o:=k * 2) (by rw [List.length_take];omega);have HR':=hJ hR';have HFk:Hid (M.take k=l.filter (fun x=> !p x)):=hJ (by rw [← HKl.out,HK.out.front];exact HFin.out);have HFl:Hid ((l.filter (fun x=> !p x)).length=k):=hJ (by rw [← HFk.out,List.length_take,HMl.out];omega);have HL':Hid (Lies RLin S (wr.setCells gb (k * 2) vs) gb (css.take k) (l.filter (fun x=> !p x))):=hJ (by rw [← HFk.out];exact (HL.out.take k).frame (fun q _ hne _=>kGS gb vs wr _ q hne))
    have HS':Hid ((css.take k).length * 2+rest'.length=c * 2):=hJ (by
     have h1:=HS.out;rw [hr',List.length_append,kBK (m:=2) (fun cs hc=>HR.out.len cs (List.mem_of_mem_drop hc)),List.length_drop,List.length_take];omega)
    have hkc:¬c=k:=by omega
    clear hR' hr' hcl
    go_wp2_with fail
    go_ret;have hO:=HR'.out.own HL'.out hgb (by rw [HFl.out];omega) hcm HS'.out;rw [HFl.out] at hO;exact ⟨⟨_,rfl,hO,(Kb.sets vs hB _).kl _ _ _ _⟩,(Kb.sets vs hB _).below hgb hbase⟩
theorem kept_small {α :Type} [Inhabited α] (eq: α → α →Bool) (l:List α) (h:l.length<2):kept (newB eq l) l l.length=l:=by
 match l,h with
 | [],_=>rfl
 | [a],_=>rfl
theorem newB_at {α :Type} [Inhabited α] {eq: α → α →Bool} {l:List α} {k:Nat} (h:0<k):newB eq l k= !eq (l.getD k default) (l.getD (k - 1) default):=by
 unfold newB;rw [show (k==0)=false by simpa using Nat.pos_iff_ne_zero.1 h];rfl
theorem compact_Lin {S:Blk} {w:World} {base:Nat} {v:Value} {l:List Lin} (h:Own RLin 45 S w base v l) (hbase:base≤w.heap.size) (hn:l.length≤1000) (g:FuncId) (hen:Ent1 g) (eq:Lin→Lin→Bool)
 (hp:∀ (S' T':Blk) (W:World) (x y:Lin) (cs ds:List Value),RLin.rd S' W cs x→RLin.rd T' W ds y→Calls Tryz.prog g #[.agg cs.toArray,.agg ds.toArray] W fun e w'=>e= .returned (.bool (eq x y))∧Below W.heap.size W w') :
 Calls Tryz.prog 95 #[v,.func (.func g) #[] #[]] w fun e w'=>(∃ v',e= .returned v'∧Own RLin 45 S w' base v' (kept (newB eq l) l l.length)∧Kl v v' w w')∧Below base w w':=by
 by_cases h2:l.length<2
 · have HF:=hJ (kept_small eq l h2)
   have HO:=hJ h;obtain ⟨a,m,c,rfl⟩:=h.shape;obtain ⟨_,_,q,_⟩:=h.sl;rw [Value.slice.injEq] at q;obtain ⟨-,rfl,-⟩:=q;clear h;generalize hln:l.length=n at *;have h3:(n:Int)<2:=by omega
   go_enter func95,ntmps95
   go_wp2_with fail
   go_ret;exact ⟨⟨_,rfl,by rw [HF.out];exact HO.out,Kl.refl _ _⟩,Below.refl _ _⟩
 have hl:0<l.length:=by omega
 obtain ⟨gb,c,css0,rest0,rfl,hgb,hR,hL,hlc,hcm,hsz⟩:=h.raw hl;have HR0:Hid (Raw 2 45 w gb css0 rest0):=hJ hR;have HL0:=hJ hL;have HS0:Hid (css0.length * 2+rest0.length=c * 2):=hJ hsz;have HP:=hJ hp;have HO:=hJ h;have hgl:=hR.lt;clear h hR hL hsz hp;generalize hln:l.length=n at *;have HN:=hJ hln;clear hln;have h3:¬(n:Int)<2:=by omega
 go_enter func95,ntmps95
 go_wp2_with fail
 have HT0:Hid (∀ i,i<1→newB eq l i=true):=hJ (fun i hi=>(show i=0 by omega) ▸ rfl)
 go_loopw [5] (fun kv wr=>∃ k:Nat,1≤k∧k≤n∧kv= .int .i64 k∧Hid (∀ i,i<k→newB eq l i=true)∧Below w.heap.size w wr) (fun kv _=>n - (intOf kv).toNat)
 case atStart=>exact ⟨1,Nat.le_refl _,by omega,rfl,HT0,Below.refl _ _⟩
 case round =>
  obtain ⟨k,hk1,hkn,rfl,HT,hB⟩:=hrel;have HR:=hJ (HR0.out.below hB hgl);have HL:=hJ (HL0.out.below hB);by_cases hlt:k<n
  · obtain ⟨kp,rfl⟩:∃ kp,k=kp+1:=⟨k - 1,by omega⟩
    obtain ⟨csx,hix,hrx⟩:=HL.out.at_ (i:=kp+1) (by rw [HN.out];exact hlt);obtain ⟨csa,hia,hra⟩:=HL.out.at_ (i:=kp) (by rw [HN.out];omega);have HC:=hJ (fun (t:Later wr)=>HP.out _ _ t.w _ _ csx csa (RLin.below hrx t.b) (RLin.below hra t.b));have HNw:Hid (newB eq l (kp+1)= !eq (l.getD (kp+1) default) (l.getD kp default)):=hJ (newB_at (by omega));obtain ⟨_,rfl,ax,cx,rfl,hsx⟩:=hrx;obtain ⟨_,rfl,aa,ca,rfl,hsa⟩:=hra;have x0:=HR.out.cell hix 0 _ rfl;have x1:=HR.out.cell hix 1 _ rfl;have a0:=HR.out.cell hia 0 _ rfl;have a1:=HR.out.cell hia 1 _ rfl;rw [Nat.add_zero] at x0 a0;have X0:=Later.cell x0;have X1:=Later.cell x1;have A0:=Later.cell a0;have A1:=Later.cell a1;have hki:(((kp+1:Nat):Int) - 1)=(kp:Int):=by omega
    have hkz:(kp:Int)+1<(n:Int):=by omega
    have hkz0:(kp:Int)<(n:Int):=by omega
    clear x0 x1 a0 a1 hix hia hsx hsa;generalize l.getD (kp+1) default=x at *;generalize l.getD kp default=a at *;cases hq:eq x a with
    | false =>
      rw [hq] at HC;have HNw2:newB eq l (kp+1)=true:=by rw [HNw.out,hq];rfl
      have HT2:Hid (∀ i,i<kp+1+1→newB eq l i=true):=hJ (upto HT.out HNw2);clear HNw2;clear hq
      go_wp2_with fail
      refine kAA (by kernel_rfl) (by kernel_rfl) ?_
      repeat (go_big_quiet_step (first | fail | exact Later.call (HC.out _)))
      refine wpQuiet_nil ?_;rintro _ ⟨t9,rfl⟩;have HBq:Hid (Below wr.heap.size wr t9.w):=hJ t9.b;generalize t9.w=wq at *
      go_wp2_with fail
      go_roundw
      case rel=>exact ⟨kp+1+1,by omega,by omega,by go_num,HT2,hB.trans (HBq.out.mono hB.size)⟩
      case measure=>simp [intOf];omega
    | true =>
      rw [hq] at HC;have HNw:Hid (newB eq l (kp+1)=false):=hJ (by rw [HNw.out,hq];rfl);clear hq
      go_wp2_with fail
      refine kAA (by kernel_rfl) (by kernel_rfl) ?_
      repeat (go_big_quiet_step (first | fail | exact Later.call (HC.out _)))
      refine wpQuiet_nil ?_;rintro _ ⟨t9,rfl⟩;have HBq:Hid (Below wr.heap.size wr t9.w):=hJ t9.b;generalize t9.w=wq at *;clear X0 X1 A0 A1 HC;have HK0:Hid (KeepAt (newB eq l) l l (kp+1)):=hJ (KeepAt.same (by rw [HN.out];omega) HT.out);have HKl0:Hid ((kept (newB eq l) l (kp+1)).length=kp+1):=hJ (by rw [kept_all _ _ _ (by rw [HN.out];omega) HT.out,List.length_take,HN.out];omega);have HK1:=hJ (HK0.out.skip HNw.out);have HKl1:Hid ((kept (newB eq l) l (kp+1+1)).length=kp+1):=hJ (by rw [kCG,if_neg (by rw [HNw.out];decide)];exact HKl0.out);have HR1:=hJ (HR.out.below HBq.out HR.out.lt);have HL1:=hJ (HL.out.below HBq.out);have hB1:Kb gb w wq:=(Kb.refl gb w).later (hB.trans (HBq.out.mono hB.size));have hkc:¬c=kp+1:=by omega
      clear HK0 HKl0 HNw HT HR HL HO
      go_wp2_with fail
      go_loopw [5,7] (fun kv jv wr=>∃ (kk j2:Nat) (M:List Lin) (css:List (List Value)) (rest:List Value),1≤j2∧kp+1+j2≤n∧kk<kp+1+j2∧kv= .int .i64 kk∧jv= .int .i64 j2∧Hid ((kept (newB eq l) l (kp+1+j2)).length=kk)∧Hid (KeepAt (newB eq l) l M (kp+1+j2))∧Hid (M.getD (kp+j2) default=l.getD (kp+j2) default)∧Hid (Raw 2 45 wr gb css rest)∧Hid (Lies RLin S wr gb css M)∧Hid (css.length * 2+rest.length=c * 2)∧Kb gb w wr) (fun _ jv _=>n - (intOf jv).toNat)
      case atStart=>exact ⟨kp+1,1,_,_,_,Nat.le_refl _,by omega,by omega,by go_num,rfl,HKl1,HK1,hJ rfl,HR1,HL1,HS0,hB1⟩
      case round =>
       clear HK1 HKl1 HR1 HL1 hB1 HBq hB;obtain ⟨kk,j2,M,css,rest,hj1,hjn,hkk,rfl,rfl,HKl,HK,HPr,HR,HL,HS,hB⟩:=hrel;have HMl:Hid (M.length=n):=hJ (by rw [HK.out.len];exact HN.out);have hsz:=hB.size;have hgl:=HR.out.lt;by_cases hlj:kp+1+j2<n
       · obtain ⟨jp,rfl⟩:∃ jp,j2=jp+1:=⟨j2 - 1,by omega⟩
         obtain ⟨csx,hix,hrx⟩:=HL.out.at_ (i:=kp+1+(jp+1)) (by rw [HMl.out];exact hlj);obtain ⟨csa,hia,hra⟩:=HL.out.at_ (i:=kp+1+jp) (by rw [HMl.out];omega);obtain ⟨csk,hik,hrk⟩:=HL.out.at_ (i:=kk) (by rw [HMl.out];omega);rw [HK.out.at_ _ (Nat.le_refl _)] at hrx;rw [show kp+1+jp=kp+(jp+1) by omega,HPr.out] at hra;have HX:=hJ hrx;have HC:=hJ (fun (t:Later wr)=>HP.out _ _ t.w _ _ csx csa (RLin.below hrx t.b) (RLin.below hra t.b))
         have HNw:Hid (newB eq l (kp+1+(jp+1))= !eq (l.getD (kp+1+(jp+1)) default) (l.getD (kp+(jp+1)) default)):=hJ (by
          rw [newB_at (by omega),show kp+1+(jp+1) - 1=kp+(jp+1) by omega])
         have HSk:Hid (newB eq l (kp+1+(jp+1))=false→KeepAt (newB eq l) l M (kp+1+(jp+1+1))∧(kept (newB eq l) l (kp+1+(jp+1+1))).length=kk):=hJ (fun q=>⟨HK.out.skip q,by
          rw [show kp+1+(jp+1+1)=kp+1+(jp+1)+1 by omega,kCG,if_neg (by rw [q];decide)];exact HKl.out⟩)
         have HPt:Hid (newB eq l (kp+1+(jp+1))=true→KeepAt (newB eq l) l (M.set kk (l.getD (kp+1+(jp+1)) default)) (kp+1+(jp+1+1))∧(kept (newB eq l) l (kp+1+(jp+1+1))).length=kk+1):=hJ (fun q=>⟨by
          have:=HK.out.put (by rw [HN.out];exact hlj) q;rwa [HKl.out] at this,by
          rw [show kp+1+(jp+1+1)=kp+1+(jp+1)+1 by omega,kCG,if_pos q,List.length_append,HKl.out];rfl⟩)
         have HPr1:Hid (M.getD (kp+(jp+1+1)) default=l.getD (kp+(jp+1+1)) default):=hJ (HK.out.at_ _ (by omega))
         have HPr2:Hid ((M.set kk (l.getD (kp+1+(jp+1)) default)).getD (kp+(jp+1+1)) default=l.getD (kp+(jp+1+1)) default):=hJ (by
          rw [← HPr1.out,List.getD_eq_getElem?_getD,List.getElem?_set_ne (by omega),List.getD_eq_getElem?_getD])
         obtain ⟨_,rfl,ax,cx,rfl,hsx⟩:=hrx;obtain ⟨_,rfl,aa,ca,rfl,hsa⟩:=hra;obtain ⟨_,rfl,ak,ck,rfl,_⟩:=hrk;have x0:=HR.out.cell hix 0 _ rfl;have x1:=HR.out.cell hix 1 _ rfl;have a0:=HR.out.cell hia 0 _ rfl;have a1:=HR.out.cell hia 1 _ rfl;rw [show (kp+1+(jp+1)) * 2+0=(kp+1) * 2+(jp+1) * 2 by omega] at x0;rw [show (kp+1+(jp+1)) * 2+1=(kp+1) * 2+(jp+1) * 2+1 by omega] at x1;rw [show (kp+1+jp) * 2+0=(kp+1) * 2+jp * 2 by omega] at a0;rw [show (kp+1+jp) * 2+1=(kp+1) * 2+jp * 2+1 by omega] at a1;have HX0:=hJ x0;have HX1:=hJ x1;have HIK:=hJ hik;have X0:=Later.cell x0;have X1:=Later.cell x1;have A0:=Later.cell a0;have A1:=Later.cell a1;have hcl:css.length=n:=by rw [HL.out.1];exact HMl.out
         have HCl:=hJ hcl;have hji:(((jp+1:Nat):Int) - 1)=(jp:Int):=by omega
         have hjz:(jp:Int)+1<(n:Int) - ((kp:Int)+1):=by omega
         have hjz0:(jp:Int)<(n:Int) - ((kp:Int)+1):=by omega
         clear x0 x1 a0 a1 hix hia hik hsx hsa hcl;generalize l.getD (kp+1+(jp+1)) default=x at *;generalize l.getD (kp+(jp+1)) default=a at *;generalize M.getD kk default=y at *;cases hq:eq x a with
         | true =>
           rw [hq] at HC;have HSk:=hJ (HSk.out (by rw [HNw.out,hq];rfl));clear hq HPt HNw HPr2
           go_wp2_with fail
           refine kAA (by kernel_rfl) (by kernel_rfl) ?_
           repeat (go_big_quiet_step (first | fail | exact Later.call (HC.out _)))
           refine wpQuiet_nil ?_;rintro _ ⟨t9,rfl⟩;have HBq:Hid (Below wr.heap.size wr t9.w):=hJ t9.b;generalize t9.w=wq at *
           go_wp2_with fail
           go_roundw
           case rel=>exact ⟨kk,jp+1+1,M,css,rest,by omega,by omega,by omega,rfl,by go_num,hJ HSk.out.2,hJ HSk.out.1,HPr1,hJ (HR.out.below HBq.out hgl),hJ (HL.out.below HBq.out),HS,hB.later HBq.out⟩
           case measure=>simp [intOf];omega
         | false =>
           rw [hq] at HC;have HPt:=hJ (HPt.out (by rw [HNw.out,hq];rfl));clear hq HSk HNw HPr1
           go_wp2_with fail
           refine kAA (by kernel_rfl) (by kernel_rfl) ?_
           repeat (go_big_quiet_step (first | fail | exact Later.call (HC.out _)))
           refine wpQuiet_nil ?_;rintro _ ⟨t9,rfl⟩;have HBq:Hid (Below wr.heap.size wr t9.w):=hJ t9.b;generalize t9.w=wq at *;clear X0 X1 A0 A1 HC;have HR4:=hJ (HR.out.below HBq.out hgl);have x0:=kAE HX0.out _ HBq.out;have x1:=kAE HX1.out _ HBq.out;have k0:=HR4.out.cell HIK.out 0 _ rfl;have k1:=HR4.out.cell HIK.out 1 _ rfl;rw [Nat.add_zero] at k0;have f0:=HR4.out.fz (kk * 2);have f1:=HR4.out.fz (kk * 2+1);have hkz2:(kk:Int)<(n:Int):=by omega
           go_wp2_with fail
           go_roundw
           case rel=>exact ⟨kk+1,jp+1+1,M.set kk x,_,rest,by omega,by omega,by omega,by go_num,by go_num,hJ HPt.out.2,hJ HPt.out.1,HPr2,hJ (HR4.out.put2 (i:=kk) (by rw [HCl.out];omega) _ _),hJ ((((HL.out.below HBq.out).self _ _).self _ _).set kk (RLin.frame (RLin.below HX.out HBq.out) (fun q hq _=>(kAB (fun e=>hq.2 e.symm)).trans (kAB (fun e=>hq.2 e.symm))))),hJ (by rw [List.length_set];exact HS.out),((hB.later HBq.out).set _ _).set _ _⟩
           case measure=>simp [intOf];omega
       · have hjn2:kp+1+j2=n:=by omega
         have hcl:css.length=n:=by rw [HL.out.1];exact HMl.out
         obtain ⟨vs,hclr⟩:=kJR wr gb (kk * 2) (n - kk) (c - kk) (by omega) (fun i hi=>HR.out.some_cell (by rw [hcl];have:=HS.out;omega)) (fun i hi=>HR.out.fz _);obtain ⟨rest',hR',hr'⟩:=Raw.setCells vs (HR.out.take kk) (o:=kk * 2) (by rw [List.length_take];omega);have HR':=hJ hR';have HFk:Hid (M.take kk=kept (newB eq l) l n):=hJ (by have:=HK.out.front;rw [HKl.out,hjn2] at this;exact this);have HFl:Hid ((kept (newB eq l) l n).length=kk):=hJ (by rw [← HFk.out,List.length_take,HMl.out];omega);have HL':Hid (Lies RLin S (wr.setCells gb (kk * 2) vs) gb (css.take kk) (kept (newB eq l) l n)):=hJ (by rw [← HFk.out];exact (HL.out.take kk).frame (fun q _ hne _=>kGS gb vs wr _ q hne))
         have HS':Hid ((css.take kk).length * 2+rest'.length=c * 2):=hJ (by
          have h1:=HS.out;rw [hr',List.length_append,kBK (m:=2) (fun cs hc=>HR.out.len cs (List.mem_of_mem_drop hc)),List.length_drop,List.length_take];omega)
         have hkc2:¬c=kk:=by omega
         have hjz:¬(j2:Int)<(n:Int) - ((kp:Int)+1):=by omega
         clear hR' hr' hcl
         go_wp2_with fail
         go_ret;have hO:=HR'.out.own HL'.out hgb (by rw [HFl.out];omega) hcm HS'.out;rw [HFl.out] at hO;exact ⟨⟨_,rfl,hO,(Kb.sets vs hB _).kl _ _ _ _⟩,(Kb.sets vs hB _).below hgb hbase⟩
  · obtain rfl:k=n:=by omega
    have HF:Hid (kept (newB eq l) l k=l):=hJ (by rw [kept_all _ _ _ (by rw [HN.out];exact Nat.le_refl _) HT.out,List.take_of_length_le (by rw [HN.out];exact Nat.le_refl _)])
    go_wp2_with fail
    go_ret;exact ⟨⟨_,rfl,by rw [HF.out];exact HO.out.below hB,Kl.below hB⟩,hB.mono hbase⟩
theorem insSort_Lin0 (a:Option Addr) (c:Nat) (w:World) (g:FuncId):Calls Tryz.prog 198 #[.slice a 0 c,.int .i64 0,.int .i64 0,.func (.func g) #[] #[]] w fun e w'=>e= .returned (.tuple #[])∧w=w':=by
 go_enter func198,ntmps198
 go_wp2_with fail
 go_loopw [8] (fun i wr=>i= .int .i64 1∧w=wr) (fun _ _=>0)
 case atStart=>exact ⟨rfl,rfl⟩
 case round =>
  obtain ⟨rfl,rfl⟩:=hrel
  go_wp2_with fail
  go_end0;exact ⟨rfl,rfl⟩
def SrtedV (S:Blk) (base:Nat) (cmp:Lin→Lin→Int) (l:List Lin) (v:Value) (w w':World):Prop:=∃ m,m.Perm l∧Le cmp m∧Own RLin 45 S w' base v m∧Kl v v w w'
theorem insSort_LinA {S:Blk} {w:World} {base:Nat} {v:Value} {l:List Lin} (h:Own RLin 45 S w base v l) (hbase:base≤w.heap.size) (hn:l.length≤12) (g:FuncId) (hen:Ent1 g) (cmp:Lin→Lin→Int) (hc:PreC cmp)
 (hcmp:∀ (S' T':Blk) (W:World) (x y:Lin) (cs ds:List Value),RLin.rd S' W cs x→RLin.rd T' W ds y→Calls Tryz.prog g #[.agg cs.toArray,.agg ds.toArray] W fun e w'=>e= .returned (.int .i64 (cmp x y))∧Below W.heap.size W w') :
 Calls Tryz.prog 198 #[v,.int .i64 0,.int .i64 l.length,.func (.func g) #[] #[]] w fun e w'=>(e= .returned (.tuple #[])∧SrtedV S base cmp l v w w')∧Below base w w':=by
 by_cases hl:0<l.length
 · exact insSort_Lin h hbase hl (by omega) g hen cmp hc hcmp
 · obtain rfl:l=[]:=List.eq_nil_of_length_eq_zero (by omega)
   obtain ⟨a,c,rfl,_⟩:=h.sl;refine (insSort_Lin0 a c w g).mono ?_;rintro e _ ⟨rfl,rfl⟩;exact ⟨⟨rfl,[],List.Perm.refl _,List.Pairwise.nil,h,Kl.refl _ _⟩,Below.refl _ _⟩
theorem pdq_Lin {S:Blk} {w:World} {base:Nat} {v:Value} {l:List Lin} (h:Own RLin 45 S w base v l) (hbase:base≤w.heap.size) (hn:l.length≤12) (lim:Int) (g:FuncId) (hen:Ent1 g) (cmp:Lin→Lin→Int) (hc:PreC cmp)
 (hcmp:∀ (S' T':Blk) (W:World) (x y:Lin) (cs ds:List Value),RLin.rd S' W cs x→RLin.rd T' W ds y→Calls Tryz.prog g #[.agg cs.toArray,.agg ds.toArray] W fun e w'=>e= .returned (.int .i64 (cmp x y))∧Below W.heap.size W w') :
 Calls Tryz.prog 151 #[v,.int .i64 0,.int .i64 l.length,.int .i64 lim,.func (.func g) #[] #[]] w fun e w'=>(e= .returned (.tuple #[])∧SrtedV S base cmp l v w w')∧Below base w w':=by
 have HI:=hJ (insSort_LinA h hbase hn g hen cmp hc hcmp);obtain ⟨a,m,c,rfl⟩:=h.shape;clear h hcmp hc;generalize SrtedV S base cmp l (.slice a m c) w=Q at *;generalize l.length=n at *;have h12:(n:Int)≤12:=by omega
 go_enter func151,ntmps151
 go_wp2_with fail
 go_loopw [1,2] (fun a b wr=>a= .int .i64 0∧b= .int .i64 n∧w=wr) (fun _ _ _=>0)
 case atStart=>exact ⟨rfl,rfl,rfl⟩
 case round =>
  obtain ⟨rfl,rfl,rfl⟩:=hrel
  go_wp2_with fail
  refine HI.out.mono ?_;rintro e w1 ⟨⟨rfl,hs⟩,hb⟩;have HS:=hJ hs;clear hs
  go_wp2_with fail
  refine bodyPost_ret (results_none rfl _ _ _) rfl ?_;exact ⟨⟨rfl,HS.out⟩,hb⟩
theorem sortFunc_Lin {S:Blk} {w:World} {base:Nat} {v:Value} {l:List Lin} (h:Own RLin 45 S w base v l) (hbase:base≤w.heap.size) (hn:l.length≤12) (g:FuncId) (hen:Ent1 g) (cmp:Lin→Lin→Int) (hc:PreC cmp)
 (hcmp:∀ (S' T':Blk) (W:World) (x y:Lin) (cs ds:List Value),RLin.rd S' W cs x→RLin.rd T' W ds y→Calls Tryz.prog g #[.agg cs.toArray,.agg ds.toArray] W fun e w'=>e= .returned (.int .i64 (cmp x y))∧Below W.heap.size W w') :
 Calls Tryz.prog 93 #[v,.func (.func g) #[] #[]] w fun e w'=>(e= .returned (.tuple #[])∧SrtedV S base cmp l v w w')∧Below base w w':=by
 have HI:=hJ (fun lim=>pdq_Lin h hbase hn lim g hen cmp hc hcmp);obtain ⟨a,m,c,rfl⟩:=h.shape;obtain ⟨_,_,q,_⟩:=h.sl;rw [Value.slice.injEq] at q;obtain ⟨-,rfl,-⟩:=q;clear h hcmp hc;generalize SrtedV S base cmp l _ w=Q at *;generalize l.length=n at *;have wr:IntKind.u64.wrap (n:Int)=n:=by simp [IntKind.wrap,IntKind.bits,IntKind.signed];omega
 go_enter func93,ntmps93
 go_wp2_with fail
 refine (Tryz.bits_Len (n:Int) _ (by omega) (by omega)).mono ?_;rintro e w1 ⟨rfl,rfl⟩
 go_wp2_with fail
 refine (HI.out _).mono ?_;rintro e w2 ⟨⟨rfl,hs⟩,hb⟩;have HS:=hJ hs;clear hs
 go_wp2_with fail
 go_end0;exact ⟨⟨rfl,HS.out⟩,hb⟩
theorem kJV {S:Blk} {w:World} {base:Nat} {v:Value} {l:List Bnd} (h:Own RBnd 47 S w base v l) (hbase:base≤w.heap.size) (hl:l.length≤1000000) (kind:Int) (name:Str) :
 Calls Tryz.prog 56 #[v,.int .i64 kind,.string name] w fun e w'=>(∃ v',e= .returned v'∧Own RBnd 47 S w' base v' (addV l kind name)∧Kl v v' w w')∧Below base w w':=by
 obtain ⟨a,c,rfl,hsl⟩:=h.sl;have HO:=hJ h;have HC:=hJ (ref11_Find l a _ c w hsl kind name);have HN:Hid (addV l kind name=if 0≤kBG l kind name then l else l++[bare kind name]):=hJ rfl;clear h hsl;generalize kBG l kind name=d at *;by_cases hd:0≤d
 · have HF:Hid (addV l kind name=l):=hJ (by rw [HN.out,if_pos hd])
   go_enter func56,ntmps56
   go_wp2_with fail
   refine (HC.out).mono ?_;rintro e _ ⟨rfl,rfl⟩
   go_wp2_with fail
   go_ret;exact ⟨⟨_,rfl,by rw [HF.out];exact HO.out,Kl.refl _ _⟩,Below.refl _ _⟩
 · have HF:Hid (addV l kind name=l++[bare kind name]):=hJ (by rw [HN.out,if_neg hd])
   have hd2:d<0:=by omega
   go_enter func56,ntmps56
   go_wp2_with fail
   refine HC.out.mono ?_;rintro e _ ⟨rfl,rfl⟩
   go_wp2_with (at_builtin;refine kAZ kFB rfl _ _ rfl base _ _ rfl (HO.out.alloc _) _ (bare kind name) [.int .i64 kind,.string name,.int .i64 0,.slice none 0 0,.string ⟨#[]⟩,.slice none 0 0,.string ⟨#[]⟩] rfl ⟨_,_,rfl,⟨none,0,rfl,Sl.empty _ _ _⟩,⟨none,0,rfl,Sl.empty _ _ _⟩⟩ (kA2 47 (by (simp only [kAL,kAH,Array.getElem?_push,Array.size_push];simp))) (by omega) (by unfold maxLen;omega) (by simp;omega) ?_;intro v9 w9 hown9 hb9 hk9)
   go_ret;exact ⟨⟨_,rfl,by rw [HF.out];exact hown9,(Kl.below ((Below.refl _ _).alloc (Nat.le_refl _) _)).trans hk9.kl (by simp)⟩,((Below.refl _ _).alloc hbase _).trans hb9⟩
theorem types_with {T:Blk} {w:World} {base:Nat} {v:Value} {l:List Bnd} (h:Own RBnd 47 (fun _=>False) w base v l) (hbase:base≤w.heap.size) (m:List Bnd) (a:Option Addr) (n c:Nat) (hm:Sl RBnd T w a n c m) (hT:Apart T w v) (hb:Bare m) (hl:l.length+n≤1000000) :
 Calls Tryz.prog 82 #[v,.slice a n c] w fun e w'=>(∃ v',e= .returned v'∧Own RBnd 47 (fun _=>False) w' base v' (addBs l m)∧Kl v v' w w')∧Below base w w':=by
 have hml:=hm.len;have HML:=hJ hml;have HO:=hJ h;have HS:=hJ hm;have HT:=hJ hT;have HBare:=hJ hb;have hsm:=hm.small;obtain ⟨a0,m0,c0,rfl⟩:=h.shape;clear hml h hm hT hb;go_enter func82,ntmps82
 go_wp2_with fail
 go_loopw [0,9] (fun v i wr=>∃ (j:Nat) (v0:Value),j≤n∧i= .int .i64 j∧v0=v∧Hid (Own RBnd 47 (fun _=>False) wr base v (addBs l (m.take j)))∧Hid (Sl RBnd T wr a n c m)∧Hid (Apart T wr v)∧Hid (Kl (.slice a0 m0 c0) v w wr)∧Below base w wr) (fun _ i _=>n - (intOf i).toNat)
 case atStart=>exact ⟨0,_,Nat.zero_le _,rfl,rfl,HO,HS,HT,hJ (Kl.refl _ _),Below.refl _ _⟩
 case round =>
  obtain ⟨j,v0,hj,rfl,rfl,HO,HS,HT,HK,hB⟩:=hrel;have hsz:=hB.size;by_cases hlt:j<n
  · obtain ⟨b,off,rfl,hbW,_⟩:=HS.out.form j hlt
    obtain ⟨t,d,hr,⟨⟨ta,tc,rfl,_⟩,⟨da,dc,rfl,_⟩⟩,e0,e1,e2,e3,e4,e5,e6⟩:=HS.out.bnd j hlt;have hjm:j<m.length:=by rw [HML.out];exact hlt
    have HStep:=hJ (addBs_next (l0:=l) hjm);have HBx:=hJ (HBare.out _ (kAJ hjm))
    have HLen:Hid ((addBs l (m.take j)).length≤999999):=hJ (by
     have q1:=addBs_len (m.take j) l;rw [List.length_take] at q1;omega)
    clear hjm;generalize m.getD j default=x at *;have HR:=hJ (fun (S':Blk) (w':World)=>bare_rd (S':=S') (w':=w') hr HBx.out);obtain ⟨a3,m3,c3,rfl⟩:=HO.out.shape;obtain ⟨_,_,q3,hsl3⟩:=HO.out.sl;rw [Value.slice.injEq] at q3;obtain ⟨rfl,rfl,rfl⟩:=q3;have HC:=hJ (fun (W:World) (hW:Below wr.heap.size wr W)=>kFY _ a3 _ c3 W (hsl3.below hW) x.kind x.v);have HOld:=hJ (fun q=>addV_old (l:=addBs l (m.take j)) (k:=x.kind) (v:=x.v) q);have HNew:=hJ (fun q=>addV_new (l:=addBs l (m.take j)) (k:=x.kind) (v:=x.v) q);clear hsl3 hr;generalize addBs l (m.take j)=l1 at *;generalize kBG l1 x.kind x.v=q at *;have HA:Hid (Below wr.heap.size wr (wr.alloc (.cells #[.int .i64 x.kind,.string x.v,.int .i64 x.dim.const,.slice ta x.dim.terms.length tc,.string x.row.row,.slice da x.row.dims.length dc,.string x.elem] 47))):=hJ ((Below.refl _ _).alloc (Nat.le_refl _) _);have HP:=hJ (Bx.fresh wr 47 [.int .i64 x.kind,.string x.v,.int .i64 x.dim.const,.slice ta x.dim.terms.length tc,.string x.row.row,.slice da x.row.dims.length dc,.string x.elem]);by_cases hq:q<0
    · have HNew:Hid (addV l1 x.kind x.v=l1++[x]):=hJ (by rw [HNew.out hq,← HBx.out])
      go_wp2_with fail
      refine (HC.out _ HA.out).mono ?_;rintro e w4 ⟨rfl,hb4⟩;have HP4:=hJ (HP.out.below hb4 (by simp));have p0:=HP4.out.cell 0 _ rfl;have p1:=HP4.out.cell 1 _ rfl;have p2:=HP4.out.cell 2 _ rfl;have p3:=HP4.out.cell 3 _ rfl;have p4:=HP4.out.cell 4 _ rfl;have p5:=HP4.out.cell 5 _ rfl;have p6:=HP4.out.cell 6 _ rfl;have HB4:=hJ (HA.out.trans (hb4.mono HA.out.size));have hz4:=HB4.out.size
      go_wp2_with (at_builtin;refine kAZ kFB rfl _ _ rfl base _ _ rfl ((HO.out.below HB4.out).alloc _) _ x [.int .i64 x.kind,.string x.v,.int .i64 x.dim.const,.slice ta x.dim.terms.length tc,.string x.row.row,.slice da x.row.dims.length dc,.string x.elem] rfl (HR.out _ _) (kA2 47 (by (simp only [kAL,kAH,Array.getElem?_push,Array.size_push];simp))) (by have:=HLen.out;omega) (by have:=HLen.out;unfold maxLen;omega) (by simp;omega) ?_;intro v9 w9 hown9 hb9 hk9;obtain ⟨a9,m9,c9,rfl⟩:=hown9.shape)
      have HK9:Hid (Kl _ _ wr w9):=hJ ((Kl.below (HB4.out.alloc HB4.out.size _)).trans hk9.kl (by simp;omega));have hz9:wr.heap.size≤w9.heap.size:=by have:=hb9.size;simp at this;omega
      go_roundw
      case rel=>exact ⟨j+1,_,by omega,by go_num,rfl,hJ (by rw [HStep.out,HNew.out];exact hown9),hJ (HS.out.kl HT.out HK9.out),hJ (HT.out.kl HK9.out hz9),hJ (HK.out.trans HK9.out hsz),(hB.trans ((HB4.out.alloc HB4.out.size _).mono (by omega))).trans hb9⟩
      case measure=>simp [intOf];omega
    · have HOld:=hJ (HOld.out (by omega))
      have hq2:0≤q:=by omega
      clear hq
      go_wp2_with fail
      refine (HC.out _ HA.out).mono ?_;rintro e w4 ⟨rfl,hb4⟩;have HB4:=hJ (HA.out.trans (hb4.mono HA.out.size));have hz4:=HB4.out.size
      go_wp2_with fail
      go_roundw
      case rel=>exact ⟨j+1,_,by omega,by go_num,rfl,hJ (by rw [HStep.out,HOld.out];exact HO.out.below HB4.out),hJ (HS.out.below HB4.out),hJ (HT.out.below hz4),hJ (HK.out.trans (Kl.below HB4.out) hsz),hB.trans (HB4.out.mono (by omega))⟩
      case measure=>simp [intOf];omega
  · have HAll:Hid (m.take j=m):=hJ (List.take_of_length_le (by rw [HML.out];omega))
    obtain ⟨a3,m3,c3,rfl⟩:=HO.out.shape
    go_wp2_with fail
    go_ret;exact ⟨⟨_,rfl,by have:=HO.out;rwa [HAll.out] at this,HK.out⟩,hB⟩
def PlainB (b:List Bnd):Prop:=∀ y ∈ b,y.row.dims=[]
theorem subRow_dims {b:List Bnd} (h:PlainB b) (s:Shp):(kHI b s).dims=[]:=by
 unfold kHI
 split
 · rfl
 · split
   · next q=>exact h _ (find_hit q).1
   · rfl
theorem ok_dims {b:List Bnd} (h:PlainB b) {s:Shp} (hv:kAG s=true):kBF b s=dimsOk b s:=by
 unfold kBF;rw [subRow_dims h,decide_eq_true (by have:=(kDX hv).1;simpa using this),Bool.and_true]
theorem subShp_good {b:List Bnd} (h:PlainB b) {s:Shp} (hv:kAG s=true) (hd:∀ i,i<s.dims.length→kAC (kAM b (s.dims.getD i default))=true):kJL b s=⟨(kHI b s).row,s.dims.map (kAM b)⟩∧kE5 b s=0:=by
 have:kBF b s=true:=by
  rw [ok_dims h hv];unfold dimsOk;rw [List.all_eq_true];intro x hx;obtain ⟨i,hi,e⟩:=List.getElem_of_mem hx;have:=hd i hi;rw [List.getD_eq_getElem?_getD,List.getElem?_eq_getElem hi] at this;rw [← e];exact this
 unfold kJL kE5;rw [this];refine ⟨?_,rfl⟩
 show subShpR b s=_
 unfold subShpR;rw [subRow_dims h];rfl
theorem subShp_bad {b:List Bnd} (h:PlainB b) {s:Shp} (hv:kAG s=true) {i:Nat} (hi:i<s.dims.length) (hd:kAC (kAM b (s.dims.getD i default))=false):kJL b s=kDH∧kE5 b s=3:=by
 have:kBF b s=false:=by
  rw [ok_dims h hv];unfold dimsOk;rw [List.all_eq_false];exact ⟨_,kAJ hi,by rw [hd];decide⟩
 unfold kJL kE5;rw [this];exact ⟨rfl,rfl⟩
theorem kJ2 {x:Lin} (h:kAC x=true):limL x=x∧limE x=0:=by unfold limL limE;rw [h];exact ⟨rfl,rfl⟩
theorem lim_bad {x:Lin} (h:kAC x=false):limL x=⟨0,[]⟩∧limE x=3:=by unfold limL limE;rw [h];exact ⟨rfl,rfl⟩
theorem shape_made {S:Blk} (row:Str) (l:List Lin) (a:Option Addr) (n c:Nat) (w:World) (h:Sl RLin S w a n c l) (hn:n≤6) (hl:∀ x ∈ l,x.terms.length≤1000) :
 Calls Tryz.prog 108 #[.string row,.slice a n c] w fun e w'=>(∃ ds,e= .returned (.tuple #[.agg ds.toArray,.int .i64 0])∧RShp.rd (fun k=>w.heap.size≤k) w' ds ⟨row,l⟩)∧Below w.heap.size w w':=by
 have HL:=hJ h.len;have B0:Hid (Below w.heap.size w (w.alloc (.cells #[.string ⟨#[]⟩,.slice none 0 0] 24))):=hJ ((Below.refl _ _).alloc (Nat.le_refl _) _);have HC:=hJ (shape_clones l a n c _ (h.below B0.out) (by omega) hl);have HT:=hJ (Bx.fresh w 24 [.string ⟨#[]⟩,.slice none 0 0]);clear h hl;go_enter func108,ntmps108
 go_wp2_with fail
 refine HC.out.mono ?_;rintro e w1 ⟨⟨v,rfl,hown⟩,hb⟩;obtain ⟨a1,c1,rfl,hs1⟩:=hown.sl;rw [HL.out] at hs1 ⊢;have HX:=hJ (HT.out.below hb (by simp));have u0:=HX.out.cell 0 _ rfl;have u1:=HX.out.cell 1 _ rfl;have u2:=HX.out.fz 0;have u3:=HX.out.fz 1;have HX60:=hJ ((HX.out.set 0 (.string row)).set 1 (.slice a1 n c1));have s0:=HX60.out.cell 0 _ rfl;have s1:=HX60.out.cell 1 _ rfl;have HS1:=hJ hs1;clear hs1 hown
 go_wp2_with fail
 refine bodyPost_ret (v:=.tuple #[.agg #[.string row,.slice a1 n c1],.int .i64 0]) (by simp [results,results108,go_sem,s0,s1]) rfl ?_;refine ⟨⟨[.string row,.slice a1 n c1],rfl,⟨_,rfl,a1,c1,by rw [HL.out],?_⟩⟩,((B0.out.trans (hb.mono (by simp))).setCell (Nat.le_refl _) _).setCell (Nat.le_refl _) _⟩
 show Sl RLin _ _ a1 l.length c1 l
 rw [HL.out];refine (HS1.out.frame fun q hq _=>?_).mono (fun q hq _=>?_)
 · have hq:w.heap.size+1≤q:=by rcases hq with hq | hq <;> simpa using hq
   rw [kAB (by show w.heap.size≠q;omega),kAB (by show w.heap.size≠q;omega)]
 · have hq:w.heap.size+1≤q:=by rcases hq with hq | hq <;> simpa using hq
   omega
theorem clones_none {S:Blk} (a:Option Addr) (c:Nat) (w:World):Calls Tryz.prog 107 #[.slice a 0 c] w fun e w'=>e= .returned (.slice none 0 0)∧w=w':=by
 go_enter func107,ntmps107
 go_wp2_with fail
 go_loopw [3,8] (fun v i wr=>i= .int .i64 0∧v= .slice none 0 0∧w=wr) (fun _ i _=>0)
 case atStart=>exact ⟨rfl,rfl,rfl⟩
 case round =>
  obtain ⟨rfl,rfl,rfl⟩:=hrel
  go_wp2_with fail
  go_ret;exact ⟨rfl,rfl⟩
theorem shape_Subst {S T:Blk} {s:Shp} {cs:List Value} {w:World} (h:RShp.rd S w cs s) (hv:kAG s=true) (b:List Bnd) (a:Option Addr) (nb cb:Nat) (hbs:Sl RBnd T w a nb cb b) (hb:kCT b=true) (hp:PlainB b) (E:Env w) :
 Calls Tryz.prog 44 #[.agg cs.toArray,.slice a nb cb] w fun e w'=>(∃ ds,e= .returned (.tuple #[.agg ds.toArray,.int .i64 (kE5 b s)])∧RShp.rd (fun k=>w.heap.size≤k) w' ds (kJL b s))∧Below w.heap.size w w':=by
 have HCV:Hid (∀ W,Below w.heap.size w W→Calls Tryz.prog 70 #[.agg cs.toArray] W fun e w'=>e= .returned (.bool true)∧Below W.heap.size W w') :=
  hJ (fun W hW=>hv ▸ kD2 (RShp.below h hW) (shp_sz hv) (E.below hW))
 have HCB:Hid (∀ W,Below w.heap.size w W→Calls Tryz.prog 43 #[.slice a nb cb] W fun e w'=>e= .returned (.bool true)∧Below W.heap.size W w') :=
  hJ (fun W hW=>kEN b a nb cb W (hbs.below hW) hb (E.below hW))
 obtain ⟨_,rfl,ad,cd,rfl,hds⟩:=h;have HDs:=hJ hds;have HBS:=hJ hbs;have HD:=hJ (kDX hv);have HG:=hJ (kIL hb);have HP:=hJ hp;have EE:=hJ E;have HGood:=hJ (fun q=>subShp_good (b:=b) (s:=s) hp hv q);have HBad:=hJ (fun (i:Nat) (q1:i<s.dims.length) q2=>subShp_bad (b:=b) (s:=s) hp hv q1 q2);have HRow:Hid (kHI b s=if s.row.toList.isEmpty then ⟨s.row,[]⟩ else if 0≤kBG b 2 s.row then (b.getD (kBG b 2 s.row).toNat default).row else ⟨s.row,[]⟩):=hJ rfl;have hmd:=hds.small;have hnb:=hbs.small;have hd6:=(kDX hv).1;clear hds hbs hv hb hp E;generalize hnd:s.dims.length=n at *;have HND:=hJ hnd;clear hnd;obtain ⟨B0,ya,yb,hW0⟩:=box2 w 24 [.string s.row,.slice ad n cd] 24 [.string ⟨#[]⟩,.slice none 0 0];have xa0:=box0 ya 0 _ rfl;have xa1:=box0 ya 1 _ rfl;have xb0:=box0 yb 0 _ rfl;have xb1:=box0 yb 1 _ rfl;have bka:Bx _ _ _ _:=ya;have bkb:Bx _ _ _ _:=yb;clear ya yb;have HB4:=hJ bkb;clear bka bkb;go_enter func44,ntmps44
 go_wp2_with fail
 refine (HCV.out _ B0.out).mono ?_;rintro e w1 ⟨rfl,hb1⟩;have hW1:=B0.out.trans (hb1.mono B0.out.size)
 go_wp2_with fail
 refine (HCB.out _ hW1).mono ?_;rintro e w2 ⟨rfl,hb2⟩;have HW:=hJ (hW1.trans (hb2.mono hW1.size));have y0:=kAE (kAE xa0 _ hb1) _ hb2;have y1:=kAE (kAE xa1 _ hb1) _ hb2;have HX4:=hJ ((HB4.out.below hb1 HB4.out.lt).below hb2 (HB4.out.below hb1 HB4.out.lt).lt);have hl4:=HX4.out.lt;clear xa0 xa1 xb0 xb1 hb1 hb2 hW1 HB4;have HCF:=hJ (kH4 b a nb cb w2 (HBS.out.below HW.out) 2 s.row)
 have HFnd:Hid (0≤kBG b 2 s.row→∃ k:Nat,kBG b 2 s.row=(k:Int)∧k<b.length):=hJ (fun q=>by
  unfold kBG idx at q ⊢;by_cases ha:b.any (isB 2 s.row)=true
  · rw [if_pos ha] at q ⊢
    exact ⟨b.findIdx (isB 2 s.row),rfl,(any_hit ha).1⟩
  · rw [if_neg ha] at q;omega)
 go_wp2_with fail
 refine (HCF.out).mono ?_;rintro e w3 ⟨rfl,hb3⟩;have HW3:=hJ (HW.out.trans (hb3.mono HW.out.size));have g0:=kAE y0 _ hb3;have g1:=kAE y1 _ hb3;have HX43:=hJ (HX4.out.below hb3 hl4);have hl43:=HX43.out.lt;clear y0 y1 hb3 HX4;by_cases he:s.row.toList.isEmpty=true
 · have HR:Hid (kHI b s=⟨s.row,[]⟩):=hJ (by rw [HRow.out,if_pos he])
   generalize kBG b 2 s.row=q at *
   go_wp2_with fail
   go_loopw [7,51] (fun v i wr=>∃ (k:Nat) (v0:Value),k≤n∧i= .int .i64 k∧v0=v∧Hid (∀ i,i<k→kAC (kAM b (s.dims.getD i default))=true)∧Hid (Own RLin 45 (fun q=>w3.heap.size≤q) wr w3.heap.size v ((s.dims.take k).map (kAM b)))∧Below w3.heap.size w3 wr) (fun _ i _=>n - (intOf i).toNat)
   case atStart=>exact ⟨0,_,Nat.zero_le _,rfl,rfl,hJ (fun i hi=>absurd hi (by omega)),hJ (Own.nil _ _ _ _ _),Below.refl _ _⟩
   case round =>
    obtain ⟨k,v0,hk,rfl,rfl,HT,HO,hB⟩:=hrel;by_cases hlt:k<n
    · obtain ⟨b1,off,rfl,hbW,_⟩:=HDs.out.form k hlt
      have HBw:=hJ (HW3.out.trans (hB.mono HW3.out.size));obtain ⟨t,hr,⟨at_,ct,rfl,hts⟩,c0,c1⟩:=(HDs.out.below HBw.out).lin k hlt;have HK:Hid (k<s.dims.length):=hJ (by rw [HND.out];exact hlt);have HNext:Hid ((s.dims.take (k+1)).map (kAM b)=(s.dims.take k).map (kAM b)++[kAM b (s.dims.getD k default)]):=hJ (by rw [kAX HK.out,List.map_append];rfl);have hkl:((s.dims.take k).map (kAM b)).length=k:=by rw [List.length_map,List.length_take,HND.out];omega
      have HBk:=hJ (HBad.out k hlt);have HUp:=hJ (fun q=>upto HT.out (p:=fun j=>kAC (kAM b (s.dims.getD j default))=true) q);have HXv:=hJ (HD.out.2 _ (kAJ HK.out));have HC:=hJ (fun (W':World) (hW':Below wr.heap.size wr W')=>kEL (RLin.below hr hW') HXv.out b _ nb cb (HBS.out.below (HBw.out.trans (hW'.mono HBw.out.size))) HG.out (EE.out.below (HBw.out.trans (hW'.mono HBw.out.size))));clear hr hts;generalize s.dims.getD k default=x at *;generalize (s.dims.take k).map (kAM b)=lk at *;have hA:Below wr.heap.size wr (wr.alloc (.cells #[.int .i64 x.const,.slice at_ x.terms.length ct] 45)):=(Below.refl _ _).alloc (Nat.le_refl _) _;have HCx:=hJ (HC.out _ hA);have hX43w:=HX43.out.below hB hl43;by_cases hvx:kAC (kAM b x)=true
      · obtain ⟨e1,e2⟩:=kJ2 hvx
        rw [e1,e2] at HCx;have HUp:=hJ (HUp.out hvx);clear e1 e2 hvx
        go_wp2_with fail
        refine HCx.out.mono ?_;rintro e w5 ⟨⟨_,rfl,hr5⟩,hb5⟩;obtain ⟨_,rfl,a5,c5,rfl,hs5⟩:=hr5;have HB5:Hid (Below wr.heap.size wr w5):=hJ (hA.trans (hb5.mono (by simp)));have hsz5:w3.heap.size≤w5.heap.size:=by have h1:=HB5.out.size;have h2:=hB.size;omega
        have HRY:Hid (RLin.rd (fun q=>w3.heap.size≤q∧v0.ownBlock≠some q) w5 [.int .i64 (kAM b x).const,.slice a5 (kAM b x).terms.length c5] (kAM b x)):=hJ ⟨_,rfl,a5,c5,rfl,hs5.mono (fun q hq _=>by
         have hq:wr.heap.size+1≤q:=by simpa using hq
         refine ⟨by have:=hB.size;omega,fun e=>?_⟩;have:=(HO.out.block e).2;omega)⟩
        go_wp2_with (at_builtin;refine kAZ kCA rfl _ _ rfl w3.heap.size _ _ rfl (((HO.out.below HB5.out).alloc _).alloc _) _ (kAM b x) [.int .i64 (kAM b x).const,.slice a5 (kAM b x).terms.length c5] rfl (RLin.below HRY.out (((Below.refl _ _).alloc (Nat.le_refl _) _).alloc (by simp) _)) (kA2 45 (by (simp only [kAL,kAH,Array.getElem?_push,Array.size_push];simp))) (by omega) (by unfold maxLen;omega) (by simp;omega) ?_;intro v9 w9 hown9 hb9 hk9)
        go_roundw
        case rel=>exact ⟨k+1,_,by omega,by go_num,rfl,HUp,hJ (by rw [HNext.out];exact hown9),(hB.trans (HB5.out.mono hB.size)).trans ((((Below.refl _ _).alloc hsz5 _).alloc (by simp;omega) _).trans hb9)⟩
        case measure=>simp [intOf];omega
      · have hvx:kAC (kAM b x)=false:=by simpa using hvx
        obtain ⟨e1,e2⟩:=lim_bad hvx;rw [e1,e2] at HCx;obtain ⟨z1,z2⟩:=HBk.out hvx;have HZ1:=hJ z1;have HZ2:=hJ z2;clear e1 e2 hvx z1 z2
        go_wp2_with fail
        refine HCx.out.mono ?_;rintro e w5 ⟨⟨_,rfl,hr5⟩,hb5⟩;obtain ⟨_,rfl,a5,c5,rfl,hs5⟩:=hr5;have HB5:Hid (Below wr.heap.size wr w5):=hJ (hA.trans (hb5.mono (by simp)));have HX45:=hJ (hX43w.below HB5.out hX43w.lt);have hx45:=HX45.out.lt;have u0:=HX45.out.cell 0 _ rfl;have u1:=HX45.out.cell 1 _ rfl;have u2:=HX45.out.fz 0;have u3:=HX45.out.fz 1;have HX60:=hJ ((HX45.out.set 0 (.string ⟨#[]⟩)).set 1 (.slice none 0 0));have s0:=HX60.out.cell 0 _ rfl;have s1:=HX60.out.cell 1 _ rfl
        go_wp2_with fail
        refine bodyPost_ret (v:=.tuple #[.agg #[.string ⟨#[]⟩,.slice none 0 0],.int .i64 3]) (by simp [results,results44,go_sem,s0,s1,hx45]) rfl ?_;refine ⟨⟨[.string ⟨#[]⟩,.slice none 0 0],by rw [HZ2.out],by rw [HZ1.out];exact ⟨_,rfl,none,0,rfl,Sl.empty _ _ _⟩⟩,?_⟩;exact (((HBw.out.trans (HB5.out.mono HBw.out.size)).setCell (by show _≤w.heap.size+1;omega) _).setCell (by show _≤w.heap.size+1;omega) _).alloc (by simp;omega) _
    · obtain rfl:k=n:=by omega
      have HAll:Hid ((s.dims.take k).map (kAM b)=s.dims.map (kAM b)):=hJ (by rw [List.take_of_length_le (by rw [HND.out];exact Nat.le_refl _)]);obtain ⟨z1,z2⟩:=HGood.out HT.out;rw [HR.out] at z1;have HZ1:=hJ z1;have HZ2:=hJ z2;rw [HAll.out] at HO;obtain ⟨av,cv,rfl,hsv⟩:=HO.out.sl;have hkl:(s.dims.map (kAM b)).length=k:=by rw [List.length_map,HND.out]
      rw [hkl] at hsv ⊢;have HBw:=hJ (HW3.out.trans (hB.mono HW3.out.size))
      have HCM:=hJ (shape_made s.row (s.dims.map (kAM b)) av k cv wr hsv hd6 (fun x hx=>by
       obtain ⟨y,hy,rfl⟩:=List.mem_map.1 hx;obtain ⟨i,hi,e⟩:=List.getElem_of_mem hy;have:=HT.out i (by rw [← HND.out];exact hi);rw [List.getD_eq_getElem?_getD,List.getElem?_eq_getElem hi] at this;have h2:=kB8 this;rw [← e];exact Nat.le_trans h2 (by decide)))
      have hX43w:=hJ (HX43.out.below hB hl43);clear hsv z1 z2 hkl
      go_wp2_with fail
      refine HCM.out.mono ?_;rintro e w5 ⟨⟨_,rfl,hr5⟩,hb5⟩;obtain ⟨_,rfl,a5,c5,rfl,hs5⟩:=hr5;have HX45:=hJ (hX43w.out.below hb5 hX43w.out.lt);have u0:=HX45.out.cell 0 _ rfl;have u1:=HX45.out.cell 1 _ rfl;have u2:=HX45.out.fz 0;have u3:=HX45.out.fz 1;have HS5:=hJ hs5;clear hs5;have hll:(s.dims.map (kAM b)).length=(s.dims.map (kAM b)).length:=rfl;generalize hLL:(s.dims.map (kAM b)).length=LL at *;have HLL:=hJ hLL;clear hll hLL;have HX60:=hJ ((HX45.out.set 0 (.string s.row)).set 1 (.slice a5 LL c5));have s0:=HX60.out.cell 0 _ rfl;have s1:=HX60.out.cell 1 _ rfl
      go_wp2_with fail
      refine bodyPost_ret (v:=.tuple #[.agg #[.string s.row,.slice a5 LL c5],.int .i64 0]) (by simp [results,results44,go_sem,s0,s1]) rfl ?_;refine ⟨⟨[.string s.row,.slice a5 LL c5],by rw [HZ2.out],?_⟩,?_⟩
      · rw [HZ1.out]
        refine ⟨_,rfl,a5,c5,by rw [← HLL.out],?_⟩;have h1:=HS5.out;rw [← HLL.out] at h1;refine (h1.frame fun q hq _=>?_).mono (fun q hq _=>by have:=HBw.out.size;omega);rw [kAB (by have:=HBw.out.size;have:=hX43w.out.lt;show w.heap.size+1≠q;omega),kAB (by have:=hX43w.out.lt;show w.heap.size+1≠q;omega)]
      · exact ((HBw.out.trans (hb5.mono HBw.out.size)).setCell (by show _≤w.heap.size+1;omega) _).setCell (by show _≤w.heap.size+1;omega) _
 · have he2:s.row.toList.isEmpty=false:=by simpa using he
   by_cases hq:0≤kBG b 2 s.row
   · obtain ⟨kk,hkk,hkl⟩:=HFnd.out hq
     have hkn:kk<nb:=by rw [← HBS.out.len];exact hkl
     have HPk:=hJ (HP.out _ (kAJ hkl));have HR0:Hid (kHI b s=(b.getD kk default).row):=hJ (by rw [HRow.out,if_neg he,if_pos hq,hkk];rfl);rw [hkk];clear hq he HFnd HRow hkk;obtain ⟨bb,boff,rfl,hbb,hSb⟩:=HBS.out.form kk hkn;obtain ⟨td,dd,hr,⟨⟨at1,ct1,rfl,_⟩,⟨ad1,cd1,rfl,_⟩⟩,e0,e1,e2,e3,e4,e5,e6⟩:=(HBS.out.below HW3.out).bnd kk hkn;rw [HPk.out] at e5;have HR:Hid (kHI b s=⟨(b.getD kk default).row.row,[]⟩):=hJ (by rw [HR0.out];have:=HPk.out;revert this;generalize (b.getD kk default).row=rr;intro this;cases rr;simp_all);generalize (b.getD kk default).row.row=rr at *;have e4:=Later.cell e4;have e5:=Later.cell e5;clear hr e0 e1 e2 e3 e6;have hkn2:(kk:Int)<(nb:Int):=by omega
     go_wp2_with fail
     refine kAA (by kernel_rfl) (by kernel_rfl) ?_
     repeat (go_big_quiet_step (first | fail | exact Later.same (clones_none (S:=S) _ _ _)))
     refine wpQuiet_nil ?_;rintro _ ⟨t9,rfl⟩;have HB4:Hid (Below w3.heap.size w3 t9.w):=hJ t9.b;generalize t9.w=w4 at *;have HW4:=hJ (HW3.out.trans (HB4.out.mono HW3.out.size));have HX44:=hJ (HX43.out.below HB4.out hl43);have g1b:=kAE g1 _ HB4.out;clear HW3 HX43 hl43 g0 g1;have HW3:=HW4;have HX43:=HX44;have hl43:=HX44.out.lt;have g1:=g1b;clear HW4 HX44 g1b
     go_wp2_with fail
     go_loopw [7,51] (fun v i wr=>∃ (k:Nat) (v0:Value),k≤n∧i= .int .i64 k∧v0=v∧Hid (∀ i,i<k→kAC (kAM b (s.dims.getD i default))=true)∧Hid (Own RLin 45 (fun q=>w4.heap.size≤q) wr w4.heap.size v ((s.dims.take k).map (kAM b)))∧Below w4.heap.size w4 wr) (fun _ i _=>n - (intOf i).toNat)
     case atStart=>exact ⟨0,_,Nat.zero_le _,rfl,rfl,hJ (fun i hi=>absurd hi (by omega)),hJ (Own.nil _ _ _ _ _),Below.refl _ _⟩
     case round =>
      obtain ⟨k,v0,hk,rfl,rfl,HT,HO,hB⟩:=hrel;by_cases hlt:k<n
      · obtain ⟨b1,off,rfl,hbW,_⟩:=HDs.out.form k hlt
        have HBw:=hJ (HW3.out.trans (hB.mono HW3.out.size));obtain ⟨t,hr,⟨at_,ct,rfl,hts⟩,c0,c1⟩:=(HDs.out.below HBw.out).lin k hlt;have HK:Hid (k<s.dims.length):=hJ (by rw [HND.out];exact hlt);have HNext:Hid ((s.dims.take (k+1)).map (kAM b)=(s.dims.take k).map (kAM b)++[kAM b (s.dims.getD k default)]):=hJ (by rw [kAX HK.out,List.map_append];rfl);have hkl:((s.dims.take k).map (kAM b)).length=k:=by rw [List.length_map,List.length_take,HND.out];omega
        have HBk:=hJ (HBad.out k hlt);have HUp:=hJ (fun q=>upto HT.out (p:=fun j=>kAC (kAM b (s.dims.getD j default))=true) q);have HXv:=hJ (HD.out.2 _ (kAJ HK.out));have HC:=hJ (fun (W':World) (hW':Below wr.heap.size wr W')=>kEL (RLin.below hr hW') HXv.out b _ nb cb (HBS.out.below (HBw.out.trans (hW'.mono HBw.out.size))) HG.out (EE.out.below (HBw.out.trans (hW'.mono HBw.out.size))));clear hr hts;generalize s.dims.getD k default=x at *;generalize (s.dims.take k).map (kAM b)=lk at *;have hA:Below wr.heap.size wr (wr.alloc (.cells #[.int .i64 x.const,.slice at_ x.terms.length ct] 45)):=(Below.refl _ _).alloc (Nat.le_refl _) _;have HCx:=hJ (HC.out _ hA);have hX43w:=HX43.out.below hB hl43;by_cases hvx:kAC (kAM b x)=true
        · obtain ⟨e1,e2⟩:=kJ2 hvx
          rw [e1,e2] at HCx;have HUp:=hJ (HUp.out hvx);clear e1 e2 hvx
          go_wp2_with fail
          refine HCx.out.mono ?_;rintro e w5 ⟨⟨_,rfl,hr5⟩,hb5⟩;obtain ⟨_,rfl,a5,c5,rfl,hs5⟩:=hr5;have HB5:Hid (Below wr.heap.size wr w5):=hJ (hA.trans (hb5.mono (by simp)));have hsz5:w4.heap.size≤w5.heap.size:=by have h1:=HB5.out.size;have h2:=hB.size;omega
          have HRY:Hid (RLin.rd (fun q=>w4.heap.size≤q∧v0.ownBlock≠some q) w5 [.int .i64 (kAM b x).const,.slice a5 (kAM b x).terms.length c5] (kAM b x)):=hJ ⟨_,rfl,a5,c5,rfl,hs5.mono (fun q hq _=>by
           have hq:wr.heap.size+1≤q:=by simpa using hq
           refine ⟨by have:=hB.size;omega,fun e=>?_⟩;have:=(HO.out.block e).2;omega)⟩
          go_wp2_with (at_builtin;refine kAZ kCA rfl _ _ rfl w4.heap.size _ _ rfl (((HO.out.below HB5.out).alloc _).alloc _) _ (kAM b x) [.int .i64 (kAM b x).const,.slice a5 (kAM b x).terms.length c5] rfl (RLin.below HRY.out (((Below.refl _ _).alloc (Nat.le_refl _) _).alloc (by simp) _)) (kA2 45 (by (simp only [kAL,kAH,Array.getElem?_push,Array.size_push];simp))) (by omega) (by unfold maxLen;omega) (by simp;omega) ?_;intro v9 w9 hown9 hb9 hk9)
          go_roundw
          case rel=>exact ⟨k+1,_,by omega,by go_num,rfl,HUp,hJ (by rw [HNext.out];exact hown9),(hB.trans (HB5.out.mono hB.size)).trans ((((Below.refl _ _).alloc hsz5 _).alloc (by simp;omega) _).trans hb9)⟩
          case measure=>simp [intOf];omega
        · have hvx:kAC (kAM b x)=false:=by simpa using hvx
          obtain ⟨e1,e2⟩:=lim_bad hvx;rw [e1,e2] at HCx;obtain ⟨z1,z2⟩:=HBk.out hvx;have HZ1:=hJ z1;have HZ2:=hJ z2;clear e1 e2 hvx z1 z2
          go_wp2_with fail
          refine HCx.out.mono ?_;rintro e w5 ⟨⟨_,rfl,hr5⟩,hb5⟩;obtain ⟨_,rfl,a5,c5,rfl,hs5⟩:=hr5;have HB5:Hid (Below wr.heap.size wr w5):=hJ (hA.trans (hb5.mono (by simp)));have HX45:=hJ (hX43w.below HB5.out hX43w.lt);have hx45:=HX45.out.lt;have u0:=HX45.out.cell 0 _ rfl;have u1:=HX45.out.cell 1 _ rfl;have u2:=HX45.out.fz 0;have u3:=HX45.out.fz 1;have HX60:=hJ ((HX45.out.set 0 (.string ⟨#[]⟩)).set 1 (.slice none 0 0));have s0:=HX60.out.cell 0 _ rfl;have s1:=HX60.out.cell 1 _ rfl
          go_wp2_with fail
          refine bodyPost_ret (v:=.tuple #[.agg #[.string ⟨#[]⟩,.slice none 0 0],.int .i64 3]) (by simp [results,results44,go_sem,s0,s1,hx45]) rfl ?_;refine ⟨⟨[.string ⟨#[]⟩,.slice none 0 0],by rw [HZ2.out],by rw [HZ1.out];exact ⟨_,rfl,none,0,rfl,Sl.empty _ _ _⟩⟩,?_⟩;exact (((HBw.out.trans (HB5.out.mono HBw.out.size)).setCell (by show _≤w.heap.size+1;omega) _).setCell (by show _≤w.heap.size+1;omega) _).alloc (by simp;omega) _
      · obtain rfl:k=n:=by omega
        have HAll:Hid ((s.dims.take k).map (kAM b)=s.dims.map (kAM b)):=hJ (by rw [List.take_of_length_le (by rw [HND.out];exact Nat.le_refl _)]);obtain ⟨z1,z2⟩:=HGood.out HT.out;rw [HR.out] at z1;have HZ1:=hJ z1;have HZ2:=hJ z2;rw [HAll.out] at HO;obtain ⟨av,cv,rfl,hsv⟩:=HO.out.sl;have hkl:(s.dims.map (kAM b)).length=k:=by rw [List.length_map,HND.out]
        rw [hkl] at hsv ⊢;have HBw:=hJ (HW3.out.trans (hB.mono HW3.out.size))
        have HCM:=hJ (shape_made rr (s.dims.map (kAM b)) av k cv wr hsv hd6 (fun x hx=>by
         obtain ⟨y,hy,rfl⟩:=List.mem_map.1 hx;obtain ⟨i,hi,e⟩:=List.getElem_of_mem hy;have:=HT.out i (by rw [← HND.out];exact hi);rw [List.getD_eq_getElem?_getD,List.getElem?_eq_getElem hi] at this;have h2:=kB8 this;rw [← e];exact Nat.le_trans h2 (by decide)))
        have hX43w:=hJ (HX43.out.below hB hl43);clear hsv z1 z2 hkl
        go_wp2_with fail
        refine HCM.out.mono ?_;rintro e w5 ⟨⟨_,rfl,hr5⟩,hb5⟩;obtain ⟨_,rfl,a5,c5,rfl,hs5⟩:=hr5;have HX45:=hJ (hX43w.out.below hb5 hX43w.out.lt);have u0:=HX45.out.cell 0 _ rfl;have u1:=HX45.out.cell 1 _ rfl;have u2:=HX45.out.fz 0;have u3:=HX45.out.fz 1;have HS5:=hJ hs5;clear hs5;have hll:(s.dims.map (kAM b)).length=(s.dims.map (kAM b)).length:=rfl;generalize hLL:(s.dims.map (kAM b)).length=LL at *;have HLL:=hJ hLL;clear hll hLL;have HX60:=hJ ((HX45.out.set 0 (.string rr)).set 1 (.slice a5 LL c5));have s0:=HX60.out.cell 0 _ rfl;have s1:=HX60.out.cell 1 _ rfl
        go_wp2_with fail
        refine bodyPost_ret (v:=.tuple #[.agg #[.string rr,.slice a5 LL c5],.int .i64 0]) (by simp [results,results44,go_sem,s0,s1]) rfl ?_;refine ⟨⟨[.string rr,.slice a5 LL c5],by rw [HZ2.out],?_⟩,?_⟩
        · rw [HZ1.out]
          refine ⟨_,rfl,a5,c5,by rw [← HLL.out],?_⟩;have h1:=HS5.out;rw [← HLL.out] at h1;refine (h1.frame fun q hq _=>?_).mono (fun q hq _=>by have:=HBw.out.size;omega);rw [kAB (by have:=HBw.out.size;have:=hX43w.out.lt;show w.heap.size+1≠q;omega),kAB (by have:=hX43w.out.lt;show w.heap.size+1≠q;omega)]
        · exact ((HBw.out.trans (hb5.mono HBw.out.size)).setCell (by show _≤w.heap.size+1;omega) _).setCell (by show _≤w.heap.size+1;omega) _
   · have HR:Hid (kHI b s=⟨s.row,[]⟩):=hJ (by rw [HRow.out,if_neg he,if_neg hq])
     have hq2:kBG b 2 s.row<0:=by omega
     clear hq he HFnd HRow;generalize kBG b 2 s.row=q at *
     go_wp2_with fail
     go_loopw [7,51] (fun v i wr=>∃ (k:Nat) (v0:Value),k≤n∧i= .int .i64 k∧v0=v∧Hid (∀ i,i<k→kAC (kAM b (s.dims.getD i default))=true)∧Hid (Own RLin 45 (fun q=>w3.heap.size≤q) wr w3.heap.size v ((s.dims.take k).map (kAM b)))∧Below w3.heap.size w3 wr) (fun _ i _=>n - (intOf i).toNat)
     case atStart=>exact ⟨0,_,Nat.zero_le _,rfl,rfl,hJ (fun i hi=>absurd hi (by omega)),hJ (Own.nil _ _ _ _ _),Below.refl _ _⟩
     case round =>
      obtain ⟨k,v0,hk,rfl,rfl,HT,HO,hB⟩:=hrel;by_cases hlt:k<n
      · obtain ⟨b1,off,rfl,hbW,_⟩:=HDs.out.form k hlt
        have HBw:=hJ (HW3.out.trans (hB.mono HW3.out.size));obtain ⟨t,hr,⟨at_,ct,rfl,hts⟩,c0,c1⟩:=(HDs.out.below HBw.out).lin k hlt;have HK:Hid (k<s.dims.length):=hJ (by rw [HND.out];exact hlt);have HNext:Hid ((s.dims.take (k+1)).map (kAM b)=(s.dims.take k).map (kAM b)++[kAM b (s.dims.getD k default)]):=hJ (by rw [kAX HK.out,List.map_append];rfl);have hkl:((s.dims.take k).map (kAM b)).length=k:=by rw [List.length_map,List.length_take,HND.out];omega
        have HBk:=hJ (HBad.out k hlt);have HUp:=hJ (fun q=>upto HT.out (p:=fun j=>kAC (kAM b (s.dims.getD j default))=true) q);have HXv:=hJ (HD.out.2 _ (kAJ HK.out));have HC:=hJ (fun (W':World) (hW':Below wr.heap.size wr W')=>kEL (RLin.below hr hW') HXv.out b _ nb cb (HBS.out.below (HBw.out.trans (hW'.mono HBw.out.size))) HG.out (EE.out.below (HBw.out.trans (hW'.mono HBw.out.size))));clear hr hts;generalize s.dims.getD k default=x at *;generalize (s.dims.take k).map (kAM b)=lk at *;have hA:Below wr.heap.size wr (wr.alloc (.cells #[.int .i64 x.const,.slice at_ x.terms.length ct] 45)):=(Below.refl _ _).alloc (Nat.le_refl _) _;have HCx:=hJ (HC.out _ hA);have hX43w:=HX43.out.below hB hl43;by_cases hvx:kAC (kAM b x)=true
        · obtain ⟨e1,e2⟩:=kJ2 hvx
          rw [e1,e2] at HCx;have HUp:=hJ (HUp.out hvx);clear e1 e2 hvx
          go_wp2_with fail
          refine HCx.out.mono ?_;rintro e w5 ⟨⟨_,rfl,hr5⟩,hb5⟩;obtain ⟨_,rfl,a5,c5,rfl,hs5⟩:=hr5;have HB5:Hid (Below wr.heap.size wr w5):=hJ (hA.trans (hb5.mono (by simp)));have hsz5:w3.heap.size≤w5.heap.size:=by have h1:=HB5.out.size;have h2:=hB.size;omega
          have HRY:Hid (RLin.rd (fun q=>w3.heap.size≤q∧v0.ownBlock≠some q) w5 [.int .i64 (kAM b x).const,.slice a5 (kAM b x).terms.length c5] (kAM b x)):=hJ ⟨_,rfl,a5,c5,rfl,hs5.mono (fun q hq _=>by
           have hq:wr.heap.size+1≤q:=by simpa using hq
           refine ⟨by have:=hB.size;omega,fun e=>?_⟩;have:=(HO.out.block e).2;omega)⟩
          go_wp2_with (at_builtin;refine kAZ kCA rfl _ _ rfl w3.heap.size _ _ rfl (((HO.out.below HB5.out).alloc _).alloc _) _ (kAM b x) [.int .i64 (kAM b x).const,.slice a5 (kAM b x).terms.length c5] rfl (RLin.below HRY.out (((Below.refl _ _).alloc (Nat.le_refl _) _).alloc (by simp) _)) (kA2 45 (by (simp only [kAL,kAH,Array.getElem?_push,Array.size_push];simp))) (by omega) (by unfold maxLen;omega) (by simp;omega) ?_;intro v9 w9 hown9 hb9 hk9)
          go_roundw
          case rel=>exact ⟨k+1,_,by omega,by go_num,rfl,HUp,hJ (by rw [HNext.out];exact hown9),(hB.trans (HB5.out.mono hB.size)).trans ((((Below.refl _ _).alloc hsz5 _).alloc (by simp;omega) _).trans hb9)⟩
          case measure=>simp [intOf];omega
        · have hvx:kAC (kAM b x)=false:=by simpa using hvx
          obtain ⟨e1,e2⟩:=lim_bad hvx;rw [e1,e2] at HCx;obtain ⟨z1,z2⟩:=HBk.out hvx;have HZ1:=hJ z1;have HZ2:=hJ z2;clear e1 e2 hvx z1 z2
          go_wp2_with fail
          refine HCx.out.mono ?_;rintro e w5 ⟨⟨_,rfl,hr5⟩,hb5⟩;obtain ⟨_,rfl,a5,c5,rfl,hs5⟩:=hr5;have HB5:Hid (Below wr.heap.size wr w5):=hJ (hA.trans (hb5.mono (by simp)));have HX45:=hJ (hX43w.below HB5.out hX43w.lt);have hx45:=HX45.out.lt;have u0:=HX45.out.cell 0 _ rfl;have u1:=HX45.out.cell 1 _ rfl;have u2:=HX45.out.fz 0;have u3:=HX45.out.fz 1;have HX60:=hJ ((HX45.out.set 0 (.string ⟨#[]⟩)).set 1 (.slice none 0 0));have s0:=HX60.out.cell 0 _ rfl;have s1:=HX60.out.cell 1 _ rfl
          go_wp2_with fail
          refine bodyPost_ret (v:=.tuple #[.agg #[.string ⟨#[]⟩,.slice none 0 0],.int .i64 3]) (by simp [results,results44,go_sem,s0,s1,hx45]) rfl ?_;refine ⟨⟨[.string ⟨#[]⟩,.slice none 0 0],by rw [HZ2.out],by rw [HZ1.out];exact ⟨_,rfl,none,0,rfl,Sl.empty _ _ _⟩⟩,?_⟩;exact (((HBw.out.trans (HB5.out.mono HBw.out.size)).setCell (by show _≤w.heap.size+1;omega) _).setCell (by show _≤w.heap.size+1;omega) _).alloc (by simp;omega) _
      · obtain rfl:k=n:=by omega
        have HAll:Hid ((s.dims.take k).map (kAM b)=s.dims.map (kAM b)):=hJ (by rw [List.take_of_length_le (by rw [HND.out];exact Nat.le_refl _)]);obtain ⟨z1,z2⟩:=HGood.out HT.out;rw [HR.out] at z1;have HZ1:=hJ z1;have HZ2:=hJ z2;rw [HAll.out] at HO;obtain ⟨av,cv,rfl,hsv⟩:=HO.out.sl;have hkl:(s.dims.map (kAM b)).length=k:=by rw [List.length_map,HND.out]
        rw [hkl] at hsv ⊢;have HBw:=hJ (HW3.out.trans (hB.mono HW3.out.size))
        have HCM:=hJ (shape_made s.row (s.dims.map (kAM b)) av k cv wr hsv hd6 (fun x hx=>by
         obtain ⟨y,hy,rfl⟩:=List.mem_map.1 hx;obtain ⟨i,hi,e⟩:=List.getElem_of_mem hy;have:=HT.out i (by rw [← HND.out];exact hi);rw [List.getD_eq_getElem?_getD,List.getElem?_eq_getElem hi] at this;have h2:=kB8 this;rw [← e];exact Nat.le_trans h2 (by decide)))
        have hX43w:=hJ (HX43.out.below hB hl43);clear hsv z1 z2 hkl
        go_wp2_with fail
        refine HCM.out.mono ?_;rintro e w5 ⟨⟨_,rfl,hr5⟩,hb5⟩;obtain ⟨_,rfl,a5,c5,rfl,hs5⟩:=hr5;have HX45:=hJ (hX43w.out.below hb5 hX43w.out.lt);have u0:=HX45.out.cell 0 _ rfl;have u1:=HX45.out.cell 1 _ rfl;have u2:=HX45.out.fz 0;have u3:=HX45.out.fz 1;have HS5:=hJ hs5;clear hs5;have hll:(s.dims.map (kAM b)).length=(s.dims.map (kAM b)).length:=rfl;generalize hLL:(s.dims.map (kAM b)).length=LL at *;have HLL:=hJ hLL;clear hll hLL;have HX60:=hJ ((HX45.out.set 0 (.string s.row)).set 1 (.slice a5 LL c5));have s0:=HX60.out.cell 0 _ rfl;have s1:=HX60.out.cell 1 _ rfl
        go_wp2_with fail
        refine bodyPost_ret (v:=.tuple #[.agg #[.string s.row,.slice a5 LL c5],.int .i64 0]) (by simp [results,results44,go_sem,s0,s1]) rfl ?_;refine ⟨⟨[.string s.row,.slice a5 LL c5],by rw [HZ2.out],?_⟩,?_⟩
        · rw [HZ1.out]
          refine ⟨_,rfl,a5,c5,by rw [← HLL.out],?_⟩;have h1:=HS5.out;rw [← HLL.out] at h1;refine (h1.frame fun q hq _=>?_).mono (fun q hq _=>by have:=HBw.out.size;omega);rw [kAB (by have:=HBw.out.size;have:=hX43w.out.lt;show w.heap.size+1≠q;omega),kAB (by have:=hX43w.out.lt;show w.heap.size+1≠q;omega)]
        · exact ((HBw.out.trans (hb5.mono HBw.out.size)).setCell (by show _≤w.heap.size+1;omega) _).setCell (by show _≤w.heap.size+1;omega) _
theorem typ_shp {x:Typ} (h:kAD x=true):kAG x.shape=true:=by unfold kAD at h;rw [Bool.and_eq_true] at h;exact h.2
theorem kHH {b:List Bnd} {x:Typ} (h:kBF b x.shape=true):subTyp b x=kBZ b x∧kE5 b x.shape=0∧kJL b x.shape=subShpR b x.shape:=by
 unfold subTyp kE5 kJL;rw [h];exact ⟨rfl,rfl,rfl⟩
theorem kEE {b:List Bnd} {x:Typ} (h:kBF b x.shape=false):subTyp b x=kBJ∧kE5 b x.shape=3∧kJL b x.shape=kDH:=by
 unfold subTyp kE5 kJL;rw [h];exact ⟨rfl,rfl,rfl⟩
theorem find_nat {b:List Bnd} {k:Int} {v:Str} (q:0≤kBG b k v):∃ i:Nat,kBG b k v=(i:Int)∧i<b.length:=by
 unfold kBG idx at q ⊢;by_cases ha:b.any (isB k v)=true
 · rw [if_pos ha] at q ⊢
   exact ⟨b.findIdx (isB k v),rfl,(any_hit ha).1⟩
 · rw [if_neg ha] at q;omega
theorem Sl.set {α :Type} {R:Rep α} {S:Blk} {w:World} {a:Option Addr} {n c:Nat} {l:List α} (h:Sl R S w a n c l) {ad:Addr} {u:Value} (hne:∀ q,S q→ad.block≠q):Sl R S (w.setCell ad u) a n c l:=h.frame (fun q hq _=>kAB (hne q hq))
theorem types_Subst {S T:Blk} {x:Typ} {cs:List Value} {w:World} (h:RTyp.rd S w cs x) (hv:kAD x=true) (b:List Bnd) (a:Option Addr) (nb cb:Nat) (hbs:Sl RBnd T w a nb cb b) (hb:kCT b=true) (hp:PlainB b) (E:Env w) :
 Calls Tryz.prog 11 #[.agg cs.toArray,.slice a nb cb] w fun e w'=>(∃ ds,e= .returned (.tuple #[.agg ds.toArray,.int .i64 (kE5 b x.shape)])∧RTyp.rd (fun k=>w.heap.size≤k) w' ds (subTyp b x))∧Below w.heap.size w w':=by
 have hvs:=typ_shp hv
 have HCV:Hid (∀ W,Below w.heap.size w W→Calls Tryz.prog 26 #[.agg cs.toArray] W fun e w'=>e= .returned (.bool true)∧Below W.heap.size W w') :=
  hJ (fun W hW=>hv ▸ kCL (RTyp.below h hW) (typ_sz hv) (E.below hW))
 have HCB:Hid (∀ W,Below w.heap.size w W→Calls Tryz.prog 43 #[.slice a nb cb] W fun e w'=>e= .returned (.bool true)∧Below W.heap.size W w') :=
  hJ (fun W hW=>kEN b a nb cb W (hbs.below hW) hb (E.below hW))
 have HCS:=hJ (fun (W:World) (hW:Below w.heap.size w W)=>shape_Subst (S:=S) (s:=x.shape) (cs:=(cs.drop 1)) (w:=W) (by obtain ⟨t,rfl,ht⟩:=h;exact ⟨t,rfl,ht⟩ |> fun q=>RShp.below q hW) hvs b a nb cb (hbs.below hW) hb hp (E.below hW));obtain ⟨_,rfl,ad,cd,rfl,hds⟩:=h;have HBS:=hJ hbs;clear hds hbs hv hb hp;obtain ⟨B0,ya,yb,hW0⟩:=box2 w 26 [.string x.elem,.string x.shape.row,.slice ad x.shape.dims.length cd] 26 [.string ⟨#[]⟩,.string ⟨#[]⟩,.slice none 0 0];have xa0:=box0 ya 0 _ rfl;have xa1:=box0 ya 1 _ rfl;have xa2:=box0 ya 2 _ rfl;have xb0:=box0 yb 0 _ rfl;have xb1:=box0 yb 1 _ rfl;have xb2:=box0 yb 2 _ rfl;have bka:Bx _ _ _ _:=ya;have bkb:Bx _ _ _ _:=yb;clear ya yb;generalize x.shape.dims.length=nd at *;have HA0:=hJ bka;have HR0:=hJ bkb;clear bka bkb;go_enter func11,ntmps11
 go_wp2_with fail
 refine (HCV.out _ B0.out).mono ?_;rintro e w1 ⟨rfl,hb1⟩;have hW1:=B0.out.trans (hb1.mono B0.out.size)
 go_wp2_with fail
 refine (HCB.out _ hW1).mono ?_;rintro e w2 ⟨rfl,hb2⟩;have HW:=hJ (hW1.trans (hb2.mono hW1.size));have HA2:=hJ ((HA0.out.below hb1 HA0.out.lt).below hb2 (HA0.out.below hb1 HA0.out.lt).lt);have HR2:=hJ ((HR0.out.below hb1 HR0.out.lt).below hb2 (HR0.out.below hb1 HR0.out.lt).lt);have y0:=HA2.out.cell 0 _ rfl;have y1:=HA2.out.cell 1 _ rfl;have y2:=HA2.out.cell 2 _ rfl;have hl2:=HR2.out.lt;clear xa0 xa1 xa2 xb0 xb1 xb2 hb1 hb2 hW1 HR0 HA0 B0 HCV HCB
 go_wp2_with fail
 refine (HCS.out _ HW.out).mono ?_;rintro e w3 ⟨⟨_,rfl,hr3⟩,hb3⟩;obtain ⟨_,rfl,a5,c5,rfl,hs5⟩:=hr3;have HW3:=hJ (HW.out.trans (hb3.mono HW.out.size));have HA3:=hJ (HA2.out.below hb3 HA2.out.lt);have HR3:=hJ (HR2.out.below hb3 HR2.out.lt);have HS3:=hJ (hs5.mono (S':=fun k=>w.heap.size+2≤k∧k<w3.heap.size) (fun q hq hlt=>by have hq:w2.heap.size≤q:=hq;exact ⟨by omega,hlt⟩));have hl3:=HR3.out.lt;clear hs5 hb3 HA2 HR2 y0 y1 y2 HCS HW hW0;cases hok:kBF b x.shape with
 | false =>
    have HF:Hid (subTyp b x=kBJ∧kE5 b x.shape=3):=hJ ⟨(kEE hok).1,(kEE hok).2.1⟩;have u0:=HR3.out.fz 0;have u1:=HR3.out.fz 1;have u2:=HR3.out.fz 2;have v0:=HR3.out.cell 0 _ rfl;have v1:=HR3.out.cell 1 _ rfl;have v2:=HR3.out.cell 2 _ rfl;have HX60:=hJ (((HR3.out.set 0 (.string ⟨#[]⟩)).set 1 (.string ⟨#[]⟩)).set 2 (.slice none 0 0));have s0:=HX60.out.cell 0 _ rfl;have s1:=HX60.out.cell 1 _ rfl;have s2:=HX60.out.cell 2 _ rfl;rw [(kEE hok).2.2] at HS3 ⊢;rw [(kEE hok).2.1];clear hok
    go_wp2_with fail
    refine bodyPost_ret (v:=.tuple #[.agg #[.string ⟨#[]⟩,.string ⟨#[]⟩,.slice none 0 0],.int .i64 3]) (by simp [results,results11,go_sem,s0,s1,s2,hl3]) rfl ?_;refine ⟨⟨_,by rw [HF.out.2],by rw [HF.out.1];exact ⟨_,rfl,none,0,rfl,Sl.empty _ _ _⟩⟩,?_⟩;exact (((HW3.out.setCell (by show _≤w.heap.size+1;omega) _).setCell (by show _≤w.heap.size+1;omega) _).setCell (by show _≤w.heap.size+1;omega) _).alloc (by simp;omega) _
 | true =>
    obtain ⟨z1,z2,z3⟩:=kHH hok;rw [z3] at HS3 ⊢;have HE:=hJ z2;rw [z2];have HF:=hJ z1;clear z1 z2 z3 hok;obtain ⟨er,ed⟩:∃ q,q=subShpR b x.shape:=⟨_,rfl⟩
    have HSh:Hid ((kBZ b x).elem=subEl b x.elem∧(kBZ b x).shape=er):=hJ ⟨rfl,ed.symm⟩;rw [← ed] at HS3 ⊢;clear ed;have hA3:Below w3.heap.size w3 (w3.alloc (.cells #[.string er.row,.slice a5 er.dims.length c5] 24)):=(Below.refl _ _).alloc (Nat.le_refl _) _;have HW4:=hJ (HW3.out.trans (hA3.mono HW3.out.size));have HCF:=hJ (kFY b a nb cb _ (HBS.out.below HW4.out) 3 x.elem);have y9:=HA3.out.cell 0 _ rfl;have hl9:=HA3.out.lt
    go_wp2_with fail
    refine HCF.out.mono ?_;rintro e w6 ⟨rfl,hb6⟩;have HW6:=hJ (HW4.out.trans (hb6.mono HW4.out.size));have HA6:=hJ ((HA3.out.alloc _).below hb6 (HA3.out.alloc _).lt);have HR6:=hJ ((HR3.out.alloc _).below hb6 (HR3.out.alloc _).lt);have HT6:=hJ ((Bx.fresh w3 24 [.string er.row,.slice a5 er.dims.length c5]).below hb6 (Bx.fresh _ _ _).lt);have HS6:=hJ ((HS3.out.below hA3).below hb6);have hl6:=HR6.out.lt;have ha6:=HA6.out.lt;have ht6:=HT6.out.lt;have u0:=HR6.out.fz 0;have u1:=HR6.out.fz 1;have u2:=HR6.out.fz 2;have v0:=HR6.out.cell 0 _ rfl;have v1:=HR6.out.cell 1 _ rfl;have v2:=HR6.out.cell 2 _ rfl;have t0:=HT6.out.cell 0 _ rfl;have t1:=HT6.out.cell 1 _ rfl;clear hb6 y9 hl9 HA3 HR3 HS3 hA3 HW4;have y0:=HA6.out.cell 0 _ rfl;by_cases hq:0≤kBG b 3 x.elem
    · obtain ⟨kk,hkk,hkl⟩:=find_nat hq
      have hkn:kk<nb:=by rw [← HBS.out.len];exact hkl
      have HEl:Hid (subEl b x.elem=(b.getD kk default).elem):=hJ (by unfold subEl;rw [if_pos hq,hkk];rfl);rw [hkk];clear hq hkk;obtain ⟨bb,boff,rfl,hbb,hSb⟩:=HBS.out.form kk hkn;obtain ⟨td,dd,hr,⟨⟨at1,ct1,rfl,_⟩,⟨ad1,cd1,rfl,hrd⟩⟩,e0,e1,e2,e3,e4,e5,e6⟩:=(HBS.out.below HW6.out).bnd kk hkn;generalize (b.getD kk default).elem=ee at *;clear hr e0 e1 e2 e3 e4 e5 hrd;have r0:=HA6.out.fz 0;have hkn2:(kk:Int)<(nb:Int):=by omega
      have HR7:=hJ (HR6.out.other (a:=⟨w.heap.size,0,none⟩) (u:=.string ee) (by show w.heap.size≠_;omega));have HX60:=hJ (((HR7.out.set 0 (.string ee)).set 1 (.string er.row)).set 2 (.slice a5 er.dims.length c5));have s0:=HX60.out.cell 0 _ rfl;have s1:=HX60.out.cell 1 _ rfl;have s2:=HX60.out.cell 2 _ rfl
      go_wp2_with fail
      refine bodyPost_ret (v:=.tuple #[.agg #[.string ee,.string er.row,.slice a5 er.dims.length c5],.int .i64 0]) (by simp [results,results11,go_sem,s0,s1,s2,hl6]) rfl ?_;refine ⟨⟨[.string ee,.string er.row,.slice a5 er.dims.length c5],by rw [HE.out],?_⟩,?_⟩
      · rw [HF.out]
        refine ⟨.slice a5 er.dims.length c5,by rw [HSh.out.1,HSh.out.2,HEl.out],a5,c5,by rw [HSh.out.2],?_⟩;rw [HSh.out.2];refine Sl.mono (S:=fun k=>w.heap.size+2≤k∧k<w3.heap.size) ?_ (fun q hq _=>by have hq:=hq.1;omega)
        repeat (first | exact HS6.out | refine Sl.set ?_ (fun q hq=>by have hq:w.heap.size+2≤q∧q<w3.heap.size:=hq;first | (show w.heap.size+1≠q;omega) | (show w.heap.size≠q;omega) | (show w3.heap.size+1≠q;omega)))
      · repeat (first | exact HW6.out | refine Below.setCell ?_ (by first | (show _≤w.heap.size+1;omega) | exact Nat.le_refl _ | (show _≤w3.heap.size+1;omega)) _)
    · have hq2:kBG b 3 x.elem<0:=by omega
      have HEl:Hid (subEl b x.elem=x.elem):=hJ (by unfold subEl;rw [if_neg hq]);clear hq;generalize kBG b 3 x.elem=q at *;have HX60:=hJ (((HR6.out.set 0 (.string x.elem)).set 1 (.string er.row)).set 2 (.slice a5 er.dims.length c5));have s0:=HX60.out.cell 0 _ rfl;have s1:=HX60.out.cell 1 _ rfl;have s2:=HX60.out.cell 2 _ rfl
      go_wp2_with fail
      refine bodyPost_ret (v:=.tuple #[.agg #[.string x.elem,.string er.row,.slice a5 er.dims.length c5],.int .i64 0]) (by simp [results,results11,go_sem,s0,s1,s2,hl6]) rfl ?_;refine ⟨⟨[.string x.elem,.string er.row,.slice a5 er.dims.length c5],by rw [HE.out],?_⟩,?_⟩
      · rw [HF.out]
        refine ⟨.slice a5 er.dims.length c5,by rw [HSh.out.1,HSh.out.2,HEl.out],a5,c5,by rw [HSh.out.2],?_⟩;rw [HSh.out.2];refine Sl.mono (S:=fun k=>w.heap.size+2≤k∧k<w3.heap.size) ?_ (fun q hq _=>by have hq:=hq.1;omega)
        repeat (first | exact HS6.out | refine Sl.set ?_ (fun q hq=>by have hq:w.heap.size+2≤q∧q<w3.heap.size:=hq;first | (show w.heap.size+1≠q;omega) | (show w.heap.size≠q;omega) | (show w3.heap.size+1≠q;omega)))
      · repeat (first | exact HW6.out | refine Below.setCell ?_ (by first | (show _≤w.heap.size+1;omega) | exact Nat.le_refl _ | (show _≤w3.heap.size+1;omega)) _)
theorem addAll_kinds {p:Int→Prop} (h1:p 1):∀ (ns:List Str) (l:List Bnd),(∀ y ∈ l,p y.kind)→∀ y ∈ addAll l ns,p y.kind
 | [],l,h=>h
 | n :: ns,l,h=>addAll_kinds h1 ns (addV l 1 n) (fun y hy=>by
   unfold addV at hy
   split at hy
   · exact h y hy
   · rcases List.mem_append.1 hy with q | q
     · exact h y q
     · rw [List.mem_singleton.1 q];exact h1)
theorem varsV_kinds (s:Shp):∀ y ∈ kEC s,y.kind≠3:=by
 unfold kEC
 split
 · unfold varsS
   refine addAll_kinds (p:=fun k=>k≠3) (by decide) _ _ ?_;unfold rowV
   split
   · intro y hy;simp at hy
   · intro y hy
     unfold addV at hy
     split at hy
     · simp at hy
     · simp at hy;rw [hy];show (2:Int)≠3;decide
 · intro y hy;simp at hy
theorem find_kind {l:List Bnd} {k:Int} (h:∀ y ∈ l,y.kind≠k) (v:Str):kBG l k v<0:=by
 rw [kJ6,List.any_eq_false];intro y hy;unfold isB;rw [beq_eq_false_iff_ne.2 (h y hy)];simp
theorem kIM {S:Blk} {x:Typ} {cs:List Value} {w:World} (h:RTyp.rd S w cs x) (hv:kAD x=true) (E:Env w) :
 Calls Tryz.prog 18 #[.agg cs.toArray] w fun e w'=>(∃ v,e= .returned v∧Own RBnd 47 (fun _=>False) w' w.heap.size v (kB2 x))∧Below w.heap.size w w':=by
 have HV:Hid (∀ W,Below w.heap.size w W→Calls Tryz.prog 26 #[.agg cs.toArray] W fun e w'=>e= .returned (.bool true)∧Below W.heap.size W w') :=
  hJ (fun W hW=>hv ▸ kCL (RTyp.below h hW) (typ_sz hv) (E.below hW))
 obtain ⟨t,rfl,a,c,rfl,hs⟩:=h;have hez:x.elem.size≤281474976710656:=Nat.le_trans (typ_sz hv).1 (by decide)
 have HC:Hid (∀ W,Below w.heap.size w W→Calls Tryz.prog 53 #[.agg #[.string x.shape.row,.slice a x.shape.dims.length c]] W fun e w'=>(∃ v,e= .returned v∧Own RBnd 47 (fun _=>False) w' W.heap.size v (kEC x.shape))∧Below W.heap.size W w') :=
  hJ (fun W hW=>shape_Vars (S:=S) (cs:=[.string x.shape.row,.slice a x.shape.dims.length c]) ⟨_,rfl,a,c,rfl,hs.below hW⟩ (typ_shp hv) (E.below hW))
 have HLen:=hJ (varsV_len x.shape);have HE:Hid (∀ W,Calls Tryz.prog 54 #[.string x.elem] W fun e w'=>e= .returned (.bool (kAU x.elem))∧Below W.heap.size W w'):=hJ (fun W=>kCM x.elem hez W);have HF0:Hid (kB2 x=if kAU x.elem then addV (kEC x.shape) 3 x.elem else kEC x.shape):=hJ (by unfold kB2;rw [hv];rfl);have HN:=hJ (addV_new (find_kind (varsV_kinds x.shape) x.elem));clear hs hez hv E;obtain ⟨B0,ya,hW0⟩:=box1 w 26 [.string x.elem,.string x.shape.row,.slice a x.shape.dims.length c];have xa0:=box0 ya 0 _ rfl;have xa1:=box0 ya 1 _ rfl;have xa2:=box0 ya 2 _ rfl;have bka:Bx _ _ _ _:=ya;clear ya;have HBk:=hJ bka;clear bka;generalize kAU x.elem=q at *;generalize kEC x.shape=l at *;cases q with
 | true =>
   have HF:Hid (kB2 x=l++[bare 3 x.elem]):=hJ (by rw [HF0.out,← HN.out];rfl);clear HF0;go_enter func18,ntmps18
   go_wp2_with fail
   refine (HV.out _ B0.out).mono ?_;rintro e w1 ⟨rfl,hb⟩;have HB1:=hJ (HBk.out.below hb (by simp));have y0:=HB1.out.cell 0 _ rfl;have y1:=HB1.out.cell 1 _ rfl;have y2:=HB1.out.cell 2 _ rfl;have HW:=hJ (B0.out.trans (hb.mono B0.out.size));clear xa0 xa1 xa2
   go_wp2_with fail
   refine (HC.out _ HW.out).mono ?_;rintro e w2 ⟨⟨v,rfl,hown⟩,hb2⟩;have HO:=hJ hown;obtain ⟨a2,m2,c2,rfl⟩:=hown.shape;have hl1:=HB1.out.lt;have HB2:=hJ (HB1.out.below hb2 hl1);have z0:=HB2.out.cell 0 _ rfl;clear hown y0 y1 y2
   go_wp2_with fail
   refine (HE.out _).mono ?_;rintro e w3 ⟨rfl,hb3⟩;have HB3:=hJ (HB2.out.below hb3 HB2.out.lt);have u0:=HB3.out.cell 0 _ rfl;have hz2:=hb2.size;have hz3:=hb3.size
   go_wp2_with (at_builtin;refine kAZ kFB rfl _ _ rfl w1.heap.size _ _ rfl ((HO.out.below hb3).alloc _) _ (bare 3 x.elem) [.int .i64 3,.string x.elem,.int .i64 0,.slice none 0 0,.string ⟨#[]⟩,.slice none 0 0,.string ⟨#[]⟩] rfl ⟨_,_,rfl,⟨none,0,rfl,Sl.empty _ _ _⟩,⟨none,0,rfl,Sl.empty _ _ _⟩⟩ (kA2 47 (by (simp only [kAL,kAH,Array.getElem?_push,Array.size_push];simp))) (by have:=HLen.out;omega) (by have:=HLen.out;unfold maxLen;omega) (by simp;omega) ?_;intro v9 w9 hown9 hb9 hk9)
   go_ret;exact ⟨⟨_,rfl,by rw [HF.out];exact hown9.lower HW.out.size⟩,HW.out.trans (((hb2.trans (hb3.mono hz2)).alloc (by omega) _ |>.trans hb9).mono HW.out.size)⟩
 | false =>
   have HF:Hid (kB2 x=l):=hJ (by rw [HF0.out];rfl);clear HF0;go_enter func18,ntmps18
   go_wp2_with fail
   refine (HV.out _ B0.out).mono ?_;rintro e w1 ⟨rfl,hb⟩;have HB1:=hJ (HBk.out.below hb (by simp));have y0:=HB1.out.cell 0 _ rfl;have y1:=HB1.out.cell 1 _ rfl;have y2:=HB1.out.cell 2 _ rfl;have HW:=hJ (B0.out.trans (hb.mono B0.out.size));clear xa0 xa1 xa2
   go_wp2_with fail
   refine (HC.out _ HW.out).mono ?_;rintro e w2 ⟨⟨v,rfl,hown⟩,hb2⟩;have HO:=hJ hown;obtain ⟨a2,m2,c2,rfl⟩:=hown.shape;have hl1:=HB1.out.lt;have HB2:=hJ (HB1.out.below hb2 hl1);have z0:=HB2.out.cell 0 _ rfl;clear hown y0 y1 y2
   go_wp2_with fail
   refine (HE.out _).mono ?_;rintro e w3 ⟨rfl,hb3⟩
   go_wp2_with fail
   go_ret;exact ⟨⟨_,rfl,by rw [HF.out];exact (HO.out.below hb3).lower HW.out.size⟩,HW.out.trans ((hb2.trans (hb3.mono hb2.size)).mono HW.out.size)⟩
theorem types_Vars {S:Blk} {s:Sch} {cs:List Value} {w:World} (h:RSch.rd S w cs s) (hv:kAI s=true) (E:Env w) :
 Calls Tryz.prog 32 #[.agg cs.toArray] w fun e w'=>(∃ v,e= .returned v∧Own RBnd 47 (fun _=>False) w' w.heap.size v (kBD s))∧Below w.heap.size w w':=by
 have HV:Hid (∀ W,Below w.heap.size w W→Calls Tryz.prog 30 #[.agg cs.toArray] W fun e w'=>e= .returned (.bool true)∧Below W.heap.size W w') :=
  hJ (fun W hW=>hv ▸ kA6 (RSch.below h hW) (kJP hv) (E.below hW))
 have HE:=hJ (fun (W:World) (hW:Below w.heap.size w W)=>E.below hW);have hsp:=kAY hv;have HAV:=hJ (allT_valid hv);have HWV:=hJ hsp.2.2.2.2;have hpl:=hsp.1;have hwl:=hsp.2.1;have HF:Hid (kBD s=addAll (kBB (allT s)) (s.wh.flatMap kAK)):=hJ (by unfold kBD;rw [hv];rfl);obtain ⟨p,t,q,rfl,⟨ap,cp,rfl,hp⟩,⟨at_,ct,rfl,ht⟩,⟨aq,cq,rfl,hq⟩⟩:=h;have HP:=hJ hp;have HT:=hJ ht;have HQ:=hJ hq;have hAl:(allT s).length=s.params.length+1:=by unfold allT;rw [List.length_append];rfl
 have hAe:allT s=s.params++[s.result]:=rfl;have HAe:=hJ hAe;clear hp ht hq hsp hv hAe;generalize hn:s.params.length=n at *;generalize hm:s.wh.length=m at *;have HN:=hJ hn;have HM:=hJ hm;have HAl:=hJ hAl;clear hn hm hAl;obtain ⟨B0,ya,hW0⟩:=box1 w 29 [.slice ap n cp,.string s.result.elem,.string s.result.shape.row,.slice at_ s.result.shape.dims.length ct,.slice aq m cq];have xa0:=box0 ya 0 _ rfl;have xa1:=box0 ya 1 _ rfl;have xa2:=box0 ya 2 _ rfl;have xa3:=box0 ya 3 _ rfl;have xa4:=box0 ya 4 _ rfl;have bka:Bx _ _ _ _:=ya;clear ya;have HBk:=hJ bka;clear bka;go_enter func32,ntmps32
 go_wp2_with fail
 refine (HV.out _ B0.out).mono ?_;rintro e w1 ⟨rfl,hb⟩;have HB1:=hJ (HBk.out.below hb (by simp));have y0:=HB1.out.cell 0 _ rfl;have y1:=HB1.out.cell 1 _ rfl;have y2:=HB1.out.cell 2 _ rfl;have y3:=HB1.out.cell 3 _ rfl;have hl1:=HB1.out.lt;have HW:=hJ (B0.out.trans (hb.mono B0.out.size));clear xa0 xa1 xa2 xa3 xa4 hb;have HA:Hid (Below w1.heap.size w1 ((w1.alloc (.cells #[.string s.result.elem,.string s.result.shape.row,.slice at_ s.result.shape.dims.length ct] 26)).alloc (.cells #[.slice ap n cp,.slice (some ⟨w1.heap.size,0,none⟩) 1 1] 27))):=hJ (((Below.refl _ _).alloc (Nat.le_refl _) _).alloc (by simp) _)
 have HCat:=hJ (concat_Typ (S1:=fun k=>S k∧k<w.heap.size) (S2:=fun k=>(S k∧k<w.heap.size)∨k=w1.heap.size) s.params [s.result] ap n cp (some ⟨w1.heap.size,0,none⟩) 1 1 (w1.heap.size+1) ((w1.alloc (.cells #[.string s.result.elem,.string s.result.shape.row,.slice at_ s.result.shape.dims.length ct] 26)).alloc (.cells #[.slice ap n cp,.slice (some ⟨w1.heap.size,0,none⟩) 1 1] 27))
  (by have:=Bx.fresh (w1.alloc (.cells #[.string s.result.elem,.string s.result.shape.row,.slice at_ s.result.shape.dims.length ct] 26)) 27 [.slice ap n cp,.slice (some ⟨w1.heap.size,0,none⟩) 1 1];simpa using this)
  ((HP.out.mono (fun k hk hlt=>⟨hk,hlt⟩)).below (HW.out.trans (HA.out.mono HW.out.size)))
  (Sl.single (cs:=[.string s.result.elem,.string s.result.shape.row,.slice at_ s.result.shape.dims.length ct]) ((Bx.fresh w1 26 [.string s.result.elem,.string s.result.shape.row,.slice at_ s.result.shape.dims.length ct]).alloc _) ⟨_,rfl,at_,ct,rfl,(HT.out.mono (fun k hk hlt=>.inl ⟨hk,hlt⟩)).below (HW.out.trans (HA.out.mono HW.out.size))⟩ (.inr rfl)) (by omega) (by omega))
 go_wp2_with fail
 refine HCat.out.mono ?_;rintro e w2 ⟨⟨v,rfl,hown⟩,hb2⟩;clear HCat;have HB2:=hJ (HA.out.trans (hb2.mono HA.out.size));obtain ⟨al,cl,rfl,hsl⟩:=hown.sl;rw [← HAe.out,HAl.out] at hsl;have HLs:=hJ hsl;have hla:(s.params++[s.result]).length=n+1:=by rw [← HAe.out];exact HAl.out
 have hz2:=HB2.out.size;have HG2:=hJ (HB1.out.below HB2.out hl1);clear hown hsl hb2 y0 y1 y2 y3;rw [hla];have HLa:=hJ hla;clear hla;have HW2:=hJ (HW.out.trans (HB2.out.mono HW.out.size))
 go_wp2_with fail
 go_loopw [3,21] (fun v i wr=>∃ (k:Nat) (v0:Value),k≤n+1∧i= .int .i64 k∧v0=v∧Hid (Own RBnd 47 (fun _=>False) wr w2.heap.size v (kBB ((allT s).take k)))∧Below w2.heap.size w2 wr) (fun _ i _=>n+1 - (intOf i).toNat)
 case atStart=>exact ⟨0,_,Nat.zero_le _,rfl,rfl,hJ (Own.nil _ _ _ _ _),Below.refl _ _⟩
 case round =>
  obtain ⟨k,v0,hk,rfl,rfl,HO,hB⟩:=hrel;have hsz:=hB.size;obtain ⟨a0,m0,c0,rfl⟩:=HO.out.shape;by_cases hlt:k<n+1
  · obtain ⟨b,off,rfl,hbW,_⟩:=HLs.out.form k hlt
    have hkl:k<(allT s).length:=by rw [HAl.out];exact hlt
    obtain ⟨t,hr,⟨ax,cx,rfl,hts⟩,e0,e1,e2⟩:=(HLs.out.below hB).typ k hlt;have HXv:=hJ (HAV.out _ (kAJ hkl));have HNext:=hJ (varsAll_next hkl)
    have HLen:Hid ((kBB ((allT s).take k)).length≤2000):=hJ (by
     have q1:=kE3 ((allT s).take k);rw [List.length_take] at q1;omega)
    clear hkl;generalize (allT s).getD k default=x at *;have HCx:=hJ (fun (W:World) (hW:Below wr.heap.size wr W)=>kIM (RTyp.below hr hW) HXv.out (HE.out W (HW2.out.trans ((hB.trans (hW.mono hB.size)).mono HW2.out.size))));have HVl:=hJ (varsTy_len x);have HVb:=hJ (varsTy_inv HXv.out).bare;clear hr hts;have HAx:Hid (Below wr.heap.size wr (wr.alloc (.cells #[.string x.elem,.string x.shape.row,.slice ax x.shape.dims.length cx] 26))):=hJ ((Below.refl _ _).alloc (Nat.le_refl _) _)
    go_wp2_with fail
    refine (HCx.out _ HAx.out).mono ?_;rintro e w3 ⟨⟨v3,rfl,hown3⟩,hb3⟩;obtain ⟨a3,c3,rfl,hs3,hA3⟩:=hown3.self;have HB3:=hJ (HAx.out.trans (hb3.mono HAx.out.size));have HW3:Hid (Calls _ _ _ _ _):=hJ (types_with (HO.out.below HB3.out) (by have:=HB3.out.size;omega) _ a3 _ c3 hs3 (fun q hq=>⟨(hA3 q hq).2,fun e=>by have h1:=(HO.out.block e).2;have h2:=(hA3 q hq).1;simp at h2;omega⟩) HVb.out (by have:=HLen.out;have:=HVl.out;omega));have hz3:=HB3.out.size;clear hown3 hs3 hA3 hb3;generalize kB2 x=vs at *;generalize kBB ((allT s).take k)=l0 at *
    go_wp2_with fail
    refine HW3.out.mono ?_;rintro e w4 ⟨⟨v4,rfl,hown4,_⟩,hb4⟩
    go_wp2_with fail
    go_roundw
    case rel=>exact ⟨k+1,_,by omega,by go_num,rfl,hJ (by rw [HNext.out];exact hown4),(hB.trans (HB3.out.mono hsz)).trans hb4⟩
    case measure=>simp [intOf];omega
  · have HAll:Hid (kBB ((allT s).take k)=kBB (allT s)):=hJ (by rw [List.take_of_length_le (by rw [HAl.out];omega)])
    have HO0:=hJ (HAll.out ▸ HO.out);have HG3:=hJ (HG2.out.below hB (by have:=HG2.out.lt;omega));have g4:=HG3.out.cell 4 _ rfl;have HQ2:=hJ (HQ.out.below HW2.out)
    have HL0:Hid ((kBB (allT s)).length≤2000):=hJ (by
     have q1:=kE3 (allT s);rw [HAl.out] at q1;omega)
    clear HO HAll
    go_wp2_with fail
    go_loopw [3,33] (fun v i wr=>∃ (j:Nat) (v0:Value),j≤m∧i= .int .i64 j∧v0=v∧Hid (Own RBnd 47 (fun _=>False) wr w2.heap.size v (addAll (kBB (allT s)) ((s.wh.take j).flatMap kAK)))∧Below w2.heap.size w2 wr) (fun _ i _=>m - (intOf i).toNat)
    case atStart=>exact ⟨0,_,Nat.zero_le _,rfl,rfl,HO0,hB⟩
    case round =>
     obtain ⟨j,v0,hj,rfl,rfl,HO,hB2⟩:=hrel;have hsz2:=hB2.size;obtain ⟨a0,m0,c0,rfl⟩:=HO.out.shape;by_cases hlj:j<m
     · obtain ⟨b2,off2,rfl,hbW2,_⟩:=HQ2.out.form j hlj
       have hjl:j<s.wh.length:=by rw [HM.out];exact hlj
       obtain ⟨t,hr,⟨ax,cx,rfl,hts⟩,e0,e1⟩:=(HQ2.out.below hB2).lin j hlj;have hxv:=HWV.out _ (kAJ hjl);have HX:=hJ (kB8 hxv);have HNext:Hid ((s.wh.take (j+1)).flatMap kAK=(s.wh.take j).flatMap kAK++kAK (s.wh.getD j default)):=hJ (by rw [kAX hjl,List.flatMap_append];simp)
       have HLen:Hid ((addAll (kBB (allT s)) ((s.wh.take j).flatMap kAK)).length≤3000):=hJ (by
        have q1:=kBR ((s.wh.take j).flatMap kAK) (kBB (allT s));have q2:=HL0.out;have q3:=kFM (s.wh.take j) (fun x hx=>HWV.out x (List.mem_of_mem_take hx));rw [List.length_take] at q3;omega)
       clear hjl hxv;generalize s.wh.getD j default=x at *;generalize hl0:addAll (kBB (allT s)) ((s.wh.take j).flatMap kAK)=l0 at *;have HL00:=hJ hl0;clear hl0;have HC:=hJ (fun (W:World) (hW:Below wr.heap.size wr W)=>kG0 x ax _ cx W (hts.below hW) (by have:=HX.out;omega));clear hr hts;have hvl:(kAK x).length=x.terms.length:=kJE x;have HVL:=hJ hvl;clear hvl;have HAx:Hid (Below wr.heap.size wr (wr.alloc (.cells #[.int .i64 x.const,.slice ax x.terms.length cx] 45))):=hJ ((Below.refl _ _).alloc (Nat.le_refl _) _)
       go_wp2_with fail
       refine (HC.out _ HAx.out).mono ?_;rintro e w3 ⟨⟨v3,rfl,hown3⟩,hb3⟩;obtain ⟨a3,c3,rfl,hs3,hA3⟩:=hown3.self;have HB3:=hJ (HAx.out.trans (hb3.mono HAx.out.size));have hz3:=HB3.out.size;have HT3:Hid (Apart (At a3) w3 (.slice a0 m0 c0)):=hJ (fun q hq=>⟨(hA3 q hq).2,fun e=>by have h1:=(HO.out.block e).2;have h2:=(hA3 q hq).1;simp at h2;omega⟩);have HS3:=hJ hs3;have HO3:=hJ (HO.out.below HB3.out);have HB23:=hJ (hB2.trans (HB3.out.mono hsz2));clear hown3 hs3 hA3 hb3 HC HO e0 e1;rw [HVL.out] at HS3 ⊢;generalize hxl:x.terms.length=n3 at *;have HXL:=hJ hxl;clear hxl;have hn3:n3≤12:=by have:=HX.out;omega
       go_wp2_with fail
       go_loopw [3,40] (fun v i wr=>∃ (i3:Nat) (v0:Value),i3≤n3∧i= .int .i64 i3∧v0=v∧Hid (Own RBnd 47 (fun _=>False) wr w2.heap.size v (addAll l0 ((kAK x).take i3)))∧Hid (Sl RStr (At a3) wr a3 n3 c3 (kAK x))∧Hid (Apart (At a3) wr v)∧Below w2.heap.size w2 wr) (fun _ i _=>n3 - (intOf i).toNat)
       case atStart=>exact ⟨0,_,Nat.zero_le _,rfl,rfl,HO3,HS3,HT3,HB23.out⟩
       case round =>
        obtain ⟨i3,v0,hi3,rfl,rfl,HO,HS,HT,hB4⟩:=hrel;have hsz4:=hB4.size;obtain ⟨a0,m0,c0,rfl⟩:=HO.out.shape;by_cases hl3:i3<n3
        · obtain ⟨b4,off4,rfl,hbW4,_⟩:=HS.out.form i3 hl3
          have f0:=HS.out.str i3 hl3;have hk3:i3<x.terms.length:=by rw [HXL.out];exact hl3
          have HStep:=hJ (kJC (l0:=l0) hk3)
          have hLen2:(addAll l0 ((kAK x).take i3)).length≤4000:=by
           have q1:=kBR ((kAK x).take i3) l0;have q2:=HLen.out;rw [List.length_take] at q1;omega
          clear hk3;generalize (kAK x).getD i3 default=y at *;generalize addAll l0 ((kAK x).take i3)=l1 at *;obtain ⟨w7,hfold7⟩:∃ q,wr.alloc (.cells #[.int .i64 1,.string y,.int .i64 0,.slice none 0 0,.string ⟨#[]⟩,.slice none 0 0,.string ⟨#[]⟩] 47)=q:=⟨_,rfl⟩
          have HB7:Hid (Below wr.heap.size wr w7):=hJ (by rw [← hfold7];exact (Below.refl _ _).alloc (Nat.le_refl _) _);have HP7:Hid (Bx w7 wr.heap.size 47 [.int .i64 1,.string y,.int .i64 0,.slice none 0 0,.string ⟨#[]⟩,.slice none 0 0,.string ⟨#[]⟩]):=hJ (by rw [← hfold7];exact Bx.fresh _ _ _);have HW7:Hid (Calls _ _ _ _ _):=hJ (types_with (T:=fun q=>q=wr.heap.size) (HO.out.below HB7.out) (by have:=HB7.out.size;omega) [bare 1 y] (some ⟨wr.heap.size,0,none⟩) 1 1 (Sl.single (R:=RBnd) HP7.out ⟨_,_,rfl,⟨none,0,rfl,Sl.empty _ _ _⟩,⟨none,0,rfl,Sl.empty _ _ _⟩⟩ rfl) (fun q hq=>⟨by rw [hq];exact HP7.out.lt,fun e=>by have h1:=(HO.out.block e).2;omega⟩) (fun x hx=>by rw [List.mem_singleton.1 hx];rfl) (by omega));have hz7:=HB7.out.size
          go_wp2_with fail
          refine HW7.out.mono ?_;rintro e w8 ⟨⟨v8,rfl,hown8,hk8⟩,hb8⟩;have HK8:=hJ ((Kl.below HB7.out).trans hk8 hz7);have hz8:wr.heap.size≤w8.heap.size:=by have:=hb8.size;omega
          go_wp2_with fail
          go_roundw
          case rel=>exact ⟨i3+1,_,by omega,by go_num,rfl,hJ (by rw [HStep.out];exact hown8),hJ (HS.out.kl HT.out HK8.out),hJ (HT.out.kl HK8.out hz8),(hB4.trans (HB7.out.mono hsz4)).trans hb8⟩
          case measure=>simp [intOf];omega
        · have HEnd:Hid (addAll l0 ((kAK x).take i3)=addAll l0 (kAK x)):=hJ (by
           rw [List.take_of_length_le];rw [HVL.out];omega)
          go_wp2_with fail
          go_roundw
          case rel=>exact ⟨j+1,_,by omega,by go_num,rfl,hJ (by rw [HNext.out,kCX,HL00.out,← HEnd.out];exact HO.out),hB4⟩
          case measure=>simp [intOf];omega
     · have HAll:Hid (s.wh.take j=s.wh):=hJ (List.take_of_length_le (by rw [HM.out];omega))
       go_wp2_with fail
       go_ret;exact ⟨⟨_,rfl,by rw [HF.out];have:=HO.out.lower HW2.out.size;rwa [HAll.out] at this⟩,HW2.out.trans (hB2.mono HW2.out.size)⟩
def kGT (l:List Bnd) (k:Nat):List Bnd:=(List.range k).map (renAt l)++l.drop k
theorem renUp_zero (l:List Bnd):kGT l 0=l:=rfl
theorem renUp_all (l:List Bnd):kGT l l.length=ren l:=by
 unfold kGT ren;rw [List.drop_length,List.append_nil]
theorem kEH {l:List Bnd} {k:Nat} (h:k≤l.length):(kGT l k).length=l.length:=by
 unfold kGT;rw [List.length_append,List.length_map,List.length_range,List.length_drop];omega
theorem renUp_at {l:List Bnd} {k:Nat} (h:k<l.length):(kGT l k)[k]? =some (l.getD k default):=by
 unfold kGT;rw [List.getElem?_append_right (by rw [List.length_map,List.length_range];exact Nat.le_refl _),List.length_map,List.length_range,Nat.sub_self,List.getElem?_drop,Nat.add_zero];exact kFU h
theorem renUp_next {l:List Bnd} {k:Nat} (h:k<l.length):kGT l (k+1)=(kGT l k).set k (renAt l k):=by
 unfold kGT;rw [List.range_succ,List.map_append,List.append_assoc,List.set_append_right _ _ (by rw [List.length_map,List.length_range];exact Nat.le_refl _),List.length_map,List.length_range,Nat.sub_self]
 congr 1
 rw [List.drop_eq_getElem_cons h,List.set_cons_zero];rfl
theorem cnt_next {l:List Bnd} {k:Nat} (h:k<l.length) (q:Int):cntK q (l.take (k+1))=cntK q (l.take k)+if (l.getD k default).kind=q then 1 else 0:=by
 unfold cntK;rw [kAX h,List.countP_append]
 congr 1
 generalize l.getD k default=x at *;by_cases e:x.kind=q
 · rw [if_pos e];simp [e]
 · rw [if_neg e];simp [e]
def cntV (l:List Bnd) (k:Nat):List Value:=[.int .i64 0,.int .i64 (cntK 1 (l.take k)),.int .i64 (cntK 2 (l.take k)),.int .i64 (cntK 3 (l.take k))]
theorem cnt_bd {l:List Bnd} (hl:l.length≤3000) (q:Int) (k:Nat):cntK q (l.take k)≤3000:=by
 have:=cnt_le q (l.take k);rw [List.length_take] at this;omega
structure RenAt1 (l:List Bnd) (k:Nat) (x:Bnd):Prop where
 at1:x.kind=1→renAt l k=⟨1,x.v,varL (nm 110 (cntK 1 (l.take k)+1)),⟨⟨#[]⟩,[]⟩,⟨#[]⟩⟩∧cntV l (k+1)=(cntV l k).set 1 (.int .i64 ((cntK 1 (l.take k):Int)+1))
 at2:x.kind=2→renAt l k=⟨2,x.v,⟨0,[]⟩,⟨nm 114 (cntK 2 (l.take k)+1),[]⟩,⟨#[]⟩⟩∧cntV l (k+1)=(cntV l k).set 2 (.int .i64 ((cntK 2 (l.take k):Int)+1))
 at3:x.kind=3→renAt l k=⟨3,x.v,⟨0,[]⟩,⟨⟨#[]⟩,[]⟩,nm 65 (cntK 3 (l.take k)+1)⟩∧cntV l (k+1)=(cntV l k).set 3 (.int .i64 ((cntK 3 (l.take k):Int)+1))
theorem renAt1 {l:List Bnd} {k:Nat} (h:k<l.length) (hb:(l.getD k default)=bare (l.getD k default).kind (l.getD k default).v):RenAt1 l k (l.getD k default):=by
 have hc:=fun q=>cnt_next h q
 have hr:renAt l k=renB (cntK (l.getD k default).kind (l.take (k+1))) (l.getD k default):=rfl;generalize l.getD k default=x at *;refine ⟨fun e=>?_,fun e=>?_,fun e=>?_⟩
 · rw [e] at hr hb
   have c1:=hc 1;have c2:=hc 2;have c3:=hc 3;rw [e,if_pos rfl] at c1;rw [e,if_neg (by decide)] at c2 c3;refine ⟨?_,?_⟩
   · rw [hr,c1,hb];rfl
   · unfold cntV;rw [c1,c2,c3];rfl
 · rw [e] at hr hb
   have c1:=hc 1;have c2:=hc 2;have c3:=hc 3;rw [e,if_pos rfl] at c2;rw [e,if_neg (by decide)] at c1 c3;refine ⟨?_,?_⟩
   · rw [hr,c2,hb];rfl
   · unfold cntV;rw [c1,c2,c3];rfl
 · rw [e] at hr hb
   have c1:=hc 1;have c2:=hc 2;have c3:=hc 3;rw [e,if_pos rfl] at c3;rw [e,if_neg (by decide)] at c1 c2;refine ⟨?_,?_⟩
   · rw [hr,c3,hb];rfl
   · unfold cntV;rw [c1,c2,c3];rfl
def decS (n:Nat):Str:=⟨(Lib.decDigits n).toArray⟩
theorem ref12_Vars {S:Blk} {s:Sch} {cs:List Value} {w:World} (h:RSch.rd S w cs s) (hv:kAI s=true) :
 Calls Tryz.prog 33 #[.agg cs.toArray] w fun e w'=>(∃ v,e= .returned v∧Own RBnd 47 (fun _=>False) w' w.heap.size v (kBD s))∧Below w.heap.size w w':=by
 have hsp:=kAY hv;have hpl12:s.params.length≤1000000:=by have:=hsp.1;omega
 have HV:Hid (∀ W,Below w.heap.size w W→Calls Tryz.prog 17 #[.agg cs.toArray] W fun e w'=>e= .returned (.bool true)∧Below W.heap.size W w') :=
  hJ (fun W hW=>hv ▸ kC7 (RSch.below h hW) (kJP hv) hpl12)
 have HCA:Hid (∀ W,Below w.heap.size w W→Calls Tryz.prog 41 #[.agg cs.toArray] W fun e w'=>(∃ v,e= .returned v∧Own RTyp 26 (fun k=>S k∧k<w.heap.size) w' W.heap.size v (allT s))∧Below W.heap.size W w') :=
  hJ (fun W hW=>kHL (RSch.below (RSch.mono h (fun k hk hlt=>⟨hk,hlt⟩)) hW) hpl12)
 have HAV:=hJ (allT_valid hv);have HWV:=hJ hsp.2.2.2.2;have hpl:=hsp.1;have hwl:=hsp.2.1;have HF:Hid (kBD s=addAll (kBB (allT s)) (s.wh.flatMap kAK)):=hJ (by unfold kBD;rw [hv];rfl);obtain ⟨p,t,q,rfl,⟨ap,cp,rfl,hp⟩,⟨at_,ct,rfl,ht⟩,⟨aq,cq,rfl,hq⟩⟩:=h;have HQ:=hJ hq;have hAl:(allT s).length=s.params.length+1:=by unfold allT;rw [List.length_append];rfl
 clear hp ht hq hsp hv;generalize hn:s.params.length=n at *;generalize hm:s.wh.length=m at *;have HN:=hJ hn;have HM:=hJ hm;have HAl:=hJ hAl;clear hn hm hAl;obtain ⟨B0,ya,hW0⟩:=box1 w 29 [.slice ap n cp,.string s.result.elem,.string s.result.shape.row,.slice at_ s.result.shape.dims.length ct,.slice aq m cq];have xa0:=box0 ya 0 _ rfl;have xa1:=box0 ya 1 _ rfl;have xa2:=box0 ya 2 _ rfl;have xa3:=box0 ya 3 _ rfl;have xa4:=box0 ya 4 _ rfl;have bka:Bx _ _ _ _:=ya;clear ya;have HBk:=hJ bka;clear bka;go_enter func33,ntmps33
 go_wp2_with fail
 refine (HV.out _ B0.out).mono ?_;rintro e w1 ⟨rfl,hb⟩;have HB1:=hJ (HBk.out.below hb (by simp));have y0:=HB1.out.cell 0 _ rfl;have y1:=HB1.out.cell 1 _ rfl;have y2:=HB1.out.cell 2 _ rfl;have y3:=HB1.out.cell 3 _ rfl;have y4:=HB1.out.cell 4 _ rfl;have hl1:=HB1.out.lt;have HW:=hJ (B0.out.trans (hb.mono B0.out.size));clear xa0 xa1 xa2 xa3 xa4 hb
 go_wp2_with fail
 refine (HCA.out w1 HW.out).mono ?_;rintro e w2 ⟨⟨v,rfl,hown⟩,hb2⟩;obtain ⟨al,cl,rfl,hsl⟩:=hown.sl;rw [HAl.out] at hsl ⊢;have HLs:=hJ hsl;have hz2:=hb2.size;have HG2:=hJ (HB1.out.below hb2 hl1);have HW2:=hJ (HW.out.trans (hb2.mono HW.out.size));have HQ2:=hJ (HQ.out.below HW2.out);clear hown hsl hb2 y0 y1 y2 y3 y4
 go_wp2_with fail
 go_loopw [3,5] (fun v i wr=>∃ (k:Nat) (v0:Value),k≤n+1∧i= .int .i64 k∧v0=v∧Hid (Own RBnd 47 (fun _=>False) wr w2.heap.size v (kBB ((allT s).take k)))∧Below w2.heap.size w2 wr) (fun _ i _=>n+1 - (intOf i).toNat)
 case atStart=>exact ⟨0,_,Nat.zero_le _,rfl,rfl,hJ (Own.nil _ _ _ _ _),Below.refl _ _⟩
 case round =>
  obtain ⟨k,v0,hk,rfl,rfl,HO,hB⟩:=hrel;have hsz:=hB.size;obtain ⟨a0,m0,c0,rfl⟩:=HO.out.shape;by_cases hlt:k<n+1
  · obtain ⟨b,off,rfl,hbW,_⟩:=HLs.out.form k hlt
    have hkl:k<(allT s).length:=by rw [HAl.out];exact hlt
    obtain ⟨t,hr,⟨ax,cx,rfl,hts⟩,e0,e1,e2⟩:=(HLs.out.below hB).typ k hlt;have HXv:=hJ (HAV.out _ (kAJ hkl));have HNext:=hJ (varsAll_next hkl)
    have HLen:Hid ((kBB ((allT s).take k)).length≤2000):=hJ (by
     have q1:=kE3 ((allT s).take k);rw [List.length_take] at q1;omega)
    clear hkl;generalize (allT s).getD k default=x at *;have HCx:=hJ (kIO hr (typ_sz HXv.out));have HVl:=hJ (varsTy_len x);clear hr hts
    go_wp2_with fail
    refine HCx.out.mono ?_;rintro e w3 ⟨⟨v3,rfl,hown3⟩,hb3⟩;obtain ⟨a3,c3,rfl,hs3,hA3⟩:=hown3.self;have hz3:=hb3.size;have HT3:Hid (Apart (At a3) w3 (.slice a0 m0 c0)):=hJ (fun q hq=>⟨(hA3 q hq).2,fun e=>by have h1:=(HO.out.block e).2;have h2:=(hA3 q hq).1;omega⟩);have HS3:=hJ hs3;have HO3:=hJ (HO.out.below hb3);have HB3:=hJ (hB.trans (hb3.mono hsz));clear hown3 hs3 hA3 hb3 HCx HO e0 e1 e2;generalize kB2 x=vs at *;generalize kBB ((allT s).take k)=l0 at *;generalize hvl:vs.length=m3 at *;have HVL:=hJ hvl;clear hvl;have hm3:m3≤101:=HVl.out
    go_wp2_with fail
    go_loopw [3,7] (fun v i wr=>∃ (j:Nat) (v0:Value),j≤m3∧i= .int .i64 j∧v0=v∧Hid (Own RBnd 47 (fun _=>False) wr w2.heap.size v (addBs l0 (vs.take j)))∧Hid (Sl RBnd (At a3) wr a3 m3 c3 vs)∧Hid (Apart (At a3) wr v)∧Below w2.heap.size w2 wr) (fun _ i _=>m3 - (intOf i).toNat)
    case atStart=>exact ⟨0,_,Nat.zero_le _,rfl,rfl,HO3,HS3,HT3,HB3.out⟩
    case round =>
     obtain ⟨j,v0,hj,rfl,rfl,HO,HS,HT,hB4⟩:=hrel;have hsz4:=hB4.size;obtain ⟨a0,m0,c0,rfl⟩:=HO.out.shape;by_cases hlj:j<m3
     · obtain ⟨b4,off4,rfl,hbW4,_⟩:=HS.out.form j hlj
       obtain ⟨t,d,hr,hd,f0,f1,f2,f3,f4,f5,f6⟩:=HS.out.bnd j hlj;have hk3:j<vs.length:=by rw [HVL.out];exact hlj
       have HStep:=hJ (addBs_next (l0:=l0) hk3)
       have hLen2:(addBs l0 (vs.take j)).length≤1000000:=by
        have q1:=addBs_len (vs.take j) l0;have q2:=HLen.out;rw [List.length_take] at q1;omega
       have HAdd:Hid (Calls _ _ _ wr.drew _):=hJ (kJV HO.out.drew (by exact hsz4) hLen2 (vs.getD j default).kind (vs.getD j default).v);clear hk3 hr hd f2 f3 f4 f5 f6;generalize vs.getD j default=y at *
       go_wp2_with fail
       go_still_tail 11,(by kernel_rfl)
       change wpList _ _ _ _ _ wr.drew
       go_wp2_with fail
       refine HAdd.out.mono ?_;rintro e w8 ⟨⟨v8,rfl,hown8,hk8⟩,hb8⟩;have hk8:Kl (.slice a0 m0 c0) v8 wr w8:=⟨hk8.block,hk8.own⟩
       have hb8:Below w2.heap.size wr w8:=((Below.refl _ _).drew).trans hb8;have hz8:=hb8.size
       go_wp2_with fail
       go_roundw
       case rel=>exact ⟨j+1,_,by omega,by go_num,rfl,hJ (by rw [HStep.out];exact hown8),hJ (HS.out.kl HT.out hk8),hJ (HT.out.kl hk8 hz8),hB4.trans hb8⟩
       case measure=>simp [intOf];omega
     · have HEnd:Hid (addBs l0 (vs.take j)=addBs l0 vs):=hJ (by
        rw [List.take_of_length_le];rw [HVL.out];omega)
       go_wp2_with fail
       go_roundw
       case rel=>exact ⟨k+1,_,by omega,by go_num,rfl,hJ (by rw [HNext.out,← HEnd.out];exact HO.out),hB4⟩
       case measure=>simp [intOf];omega
  · have HAll:Hid (kBB ((allT s).take k)=kBB (allT s)):=hJ (by rw [List.take_of_length_le (by rw [HAl.out];omega)])
    have HO0:=hJ (HAll.out ▸ HO.out)
    have HL0:Hid ((kBB (allT s)).length≤2000):=hJ (by
     have q1:=kE3 (allT s);rw [HAl.out] at q1;omega)
    clear HO HAll
    go_wp2_with fail
    go_loopw [3,8] (fun v i wr=>∃ (j:Nat) (v0:Value),j≤m∧i= .int .i64 j∧v0=v∧Hid (Own RBnd 47 (fun _=>False) wr w2.heap.size v (addAll (kBB (allT s)) ((s.wh.take j).flatMap kAK)))∧Below w2.heap.size w2 wr) (fun _ i _=>m - (intOf i).toNat)
    case atStart=>exact ⟨0,_,Nat.zero_le _,rfl,rfl,HO0,hB⟩
    case round =>
     obtain ⟨j,v0,hj,rfl,rfl,HO,hB2⟩:=hrel;have hsz2:=hB2.size;obtain ⟨a0,m0,c0,rfl⟩:=HO.out.shape;have HG4:=hJ (HG2.out.below hB2 (by have:=HG2.out.lt;omega));have g4:=HG4.out.cell 4 _ rfl;by_cases hlj:j<m
     · obtain ⟨b2,off2,rfl,hbW2,_⟩:=HQ2.out.form j hlj
       have hjl:j<s.wh.length:=by rw [HM.out];exact hlj
       obtain ⟨t,hr,⟨ax,cx,rfl,hts⟩,e0,e1⟩:=HQ2.out.lin j hlj;have hxv:=HWV.out _ (kAJ hjl);have HX:=hJ (kB8 hxv);have HNext:Hid ((s.wh.take (j+1)).flatMap kAK=(s.wh.take j).flatMap kAK++kAK (s.wh.getD j default)):=hJ (by rw [kAX hjl,List.flatMap_append];simp)
       have HLen:Hid ((addAll (kBB (allT s)) ((s.wh.take j).flatMap kAK)).length≤3000):=hJ (by
        have q1:=kBR ((s.wh.take j).flatMap kAK) (kBB (allT s));have q2:=HL0.out;have q3:=kFM (s.wh.take j) (fun x hx=>HWV.out x (List.mem_of_mem_take hx));rw [List.length_take] at q3;omega)
       have HT2:=hJ hts;have hmt:=hts.small;have E1:=hJ (kAE e1);clear hjl hxv hr hts e0 e1;generalize s.wh.getD j default=x at *;generalize hl0:addAll (kBB (allT s)) ((s.wh.take j).flatMap kAK)=l0 at *;have HL00:=hJ hl0;clear hl0;have hvl:(kAK x).length=x.terms.length:=by unfold kAK;rw [List.length_map]
       have HVL:=hJ hvl;clear hvl;generalize hxl:x.terms.length=n3 at *;have HXL:=hJ hxl;clear hxl;have hn3:n3≤12:=by have:=HX.out;omega
       have e1:=E1.out _ hB2
       go_wp2_with fail
       go_loopw [3,9] (fun v i wr=>∃ (i3:Nat) (v0:Value),i3≤n3∧i= .int .i64 i3∧v0=v∧Hid (Own RBnd 47 (fun _=>False) wr w2.heap.size v (addAll l0 ((kAK x).take i3)))∧Below w2.heap.size w2 wr) (fun _ i _=>n3 - (intOf i).toNat)
       case atStart=>exact ⟨0,_,Nat.zero_le _,rfl,rfl,HO,hB2⟩
       case round =>
        obtain ⟨i3,v0,hi3,rfl,rfl,HO,hB4⟩:=hrel;have hsz4:=hB4.size;obtain ⟨a0,m0,c0,rfl⟩:=HO.out.shape;have HG5:=hJ (HG2.out.below hB4 (by have:=HG2.out.lt;omega));have g5:=HG5.out.cell 4 _ rfl;have d1:=E1.out _ hB4;by_cases hl3:i3<n3
        · obtain ⟨b4,off4,rfl,hbW4,_⟩:=HT2.out.form i3 hl3
          obtain ⟨f0,f1⟩:=(HT2.out.below hB4).coef i3 hl3;have hk3:i3<x.terms.length:=by rw [HXL.out];exact hl3
          have HStep:Hid (addAll l0 ((kAK x).take (i3+1))=addV (addAll l0 ((kAK x).take i3)) 1 (x.terms.getD i3 default).v):=hJ (by
           unfold kAK;rw [← List.map_take,← List.map_take,kAX hk3,List.map_append,kCX];rfl)
          have hLen2:(addAll l0 ((kAK x).take i3)).length≤1000000:=by
           have q1:=kBR ((kAK x).take i3) l0;have q2:=HLen.out;rw [List.length_take] at q1;omega
          clear hk3;have HAdd:Hid (Calls _ _ _ _ _):=hJ (kJV HO.out hsz4 hLen2 1 (x.terms.getD i3 default).v);generalize x.terms.getD i3 default=y at *;generalize addAll l0 ((kAK x).take i3)=l1 at *
          go_wp2_with fail
          refine HAdd.out.mono ?_;rintro e w8 ⟨⟨v8,rfl,hown8,hk8⟩,hb8⟩
          go_wp2_with fail
          go_roundw
          case rel=>exact ⟨i3+1,_,by omega,by go_num,rfl,hJ (by rw [HStep.out];exact hown8),hB4.trans hb8⟩
          case measure=>simp [intOf];omega
        · have HEnd:Hid (addAll l0 ((kAK x).take i3)=addAll l0 (kAK x)):=hJ (by
           rw [List.take_of_length_le];rw [HVL.out];omega)
          go_wp2_with fail
          go_roundw
          case rel=>exact ⟨j+1,_,by omega,by go_num,rfl,hJ (by rw [HNext.out,kCX,HL00.out,← HEnd.out];exact HO.out),hB4⟩
          case measure=>simp [intOf];omega
     · have HAll:Hid (s.wh.take j=s.wh):=hJ (List.take_of_length_le (by rw [HM.out];omega))
       go_wp2_with fail
       go_ret;exact ⟨⟨_,rfl,by rw [HF.out];have:=HO.out.lower HW2.out.size;rwa [HAll.out] at this⟩,HW2.out.trans (hB2.mono HW2.out.size)⟩
theorem Own.cut {α :Type} {R:Rep α} {E:TypeId} {S:Blk} {w:World} {base:Nat} {v:Value} {l:List α} (h:Own R E S w base v l):Own R E (fun q=>S q∧q<w.heap.size) w base v l:=h.mono fun k hk hlt=>⟨hk,hlt⟩
theorem Sl.zero {α :Type} {R:Rep α} {S:Blk} {w:World} {a:Option Addr} {c:Nat} (hm:c≤maxLen) (hn:a=none→c=0):Sl R S w a 0 c []:=⟨rfl,Nat.zero_le _,hm,hn,fun i x h=>by simp at h⟩
theorem cntV_zero (l:List Bnd):cntV l 0=[.int .i64 0,.int .i64 0,.int .i64 0,.int .i64 0]:=by
 unfold cntV cntK;rfl
def kIN (b:List Bnd) (s:Sch):Sch:=if kC6 b s then kGP b s else kEP
def kD1 (b:List Bnd) (s:Sch):Int:=if kC6 b s then 0 else 3
theorem sch_no {b:List Bnd} {s:Sch} (h:kC6 b s=false):kIN b s=kEP∧kD1 b s=3:=by
 unfold kIN kD1;rw [h];exact ⟨rfl,rfl⟩
theorem sch_badP {b:List Bnd} {s:Sch} {i:Nat} (hi:i<s.params.length) (h:kBF b (s.params.getD i default).shape=false):kIN b s=kEP∧kD1 b s=3:=sch_no (by
 have:s.params.all (fun t=>kBF b t.shape)=false:=List.all_eq_false.2 ⟨_,kAJ hi,by rw [h];decide⟩;unfold kC6;rw [this];simp)
theorem sch_badR {b:List Bnd} {s:Sch} (h:kBF b s.result.shape=false):kIN b s=kEP∧kD1 b s=3:=sch_no (by
 unfold kC6;rw [h];simp)
theorem sch_badW {b:List Bnd} {s:Sch} {i:Nat} (hi:i<s.wh.length) (h:kAC (kAM b (s.wh.getD i default))=false):kIN b s=kEP∧kD1 b s=3:=sch_no (by
 have:s.wh.all (fun x=>kAC (kAM b x))=false:=List.all_eq_false.2 ⟨_,kAJ hi,by rw [h];decide⟩;unfold kC6;rw [this];simp)
theorem all_getD {α :Type} [Inhabited α] {l:List α} {p: α →Bool} (h:∀ i,i<l.length→p (l.getD i default)=true):l.all p=true:=by
 rw [List.all_eq_true];intro x hx;obtain ⟨i,hi,e⟩:=List.getElem_of_mem hx;have:=h i hi;rw [List.getD_eq_getElem?_getD,List.getElem?_eq_getElem hi] at this;rw [← e];exact this
theorem sch_good {b:List Bnd} {s:Sch} (hv:kAI s=true) (hb:kCT b=true) (h1:∀ i,i<s.params.length→kBF b (s.params.getD i default).shape=true) (h2:kBF b s.result.shape=true) (h3:∀ i,i<s.wh.length→kAC (kAM b (s.wh.getD i default))=true):kIN b s=kGP b s∧kD1 b s=0:=by
 have:kC6 b s=true:=by
  unfold kC6;rw [hv,hb,all_getD (p:=fun t:Typ=>kBF b t.shape) h1,h2,all_getD (p:=fun x=>kAC (kAM b x)) h3];rfl
 unfold kIN kD1;rw [this];exact ⟨rfl,rfl⟩
theorem Bx.other3 {w:World} {g g':Nat} {E:TypeId} {cs:List Value} (h:Bx w g E cs) (hne:g'≠g) (a b c:Value):Bx (((w.setCell ⟨g',0,none⟩ a).setCell ⟨g',1,none⟩ b).setCell ⟨g',2,none⟩ c) g E cs:=((h.other hne).other hne).other hne
theorem Bx.other2 {w:World} {g g':Nat} {E:TypeId} {cs:List Value} (h:Bx w g E cs) (hne:g'≠g) (a b:Value):Bx ((w.setCell ⟨g',0,none⟩ a).setCell ⟨g',1,none⟩ b) g E cs:=(h.other hne).other hne
def kIW (B:Nat) (w:World) (ds:List Value) (s:Sch):Prop:=∃ base p t q,B≤base∧ds=[p,.string s.result.elem,.string s.result.shape.row,t,q]∧SlV RTyp (fun k=>B≤k∧k<base) w p s.params∧SlV RLin (fun k=>B≤k∧k<base) w t s.result.shape.dims∧Own RLin 45 (fun k=>base≤k) w base q s.wh
theorem kIW.no (B:Nat) (w:World):kIW B w [.slice none 0 0,.string ⟨#[]⟩,.string ⟨#[]⟩,.slice none 0 0,.slice none 0 0] kEP :=
 ⟨B,_,_,_,Nat.le_refl _,rfl,⟨none,0,rfl,Sl.empty _ _ _⟩,⟨none,0,rfl,Sl.empty _ _ _⟩,Own.nil _ _ _ _ _⟩
theorem kIW.rd {B:Nat} {w:World} {ds:List Value} {s:Sch} (h:kIW B w ds s):RSch.rd (fun k=>B≤k) w ds s:=by
 obtain ⟨base,p,t,q,hb,rfl,h1,h2,h3⟩:=h;obtain ⟨a,c,rfl,h4⟩:=h3.sl;exact ⟨p,t,_,rfl,h1.mono (fun k hk _=>hk.1),h2.mono (fun k hk _=>hk.1),⟨a,c,rfl,h4.mono (fun k hk _=>by have:base≤k:=hk.elim id id;omega)⟩⟩
theorem types_SubstScheme {S T:Blk} {s:Sch} {cs:List Value} {w:World} (h:RSch.rd S w cs s) (hv:kAI s=true) (b:List Bnd) (a:Option Addr) (nb cb:Nat) (hbs:Sl RBnd T w a nb cb b) (hb:kCT b=true) (hp:PlainB b) (E:Env w) :
 Calls Tryz.prog 13 #[.agg cs.toArray,.slice a nb cb] w fun e w'=>(∃ ds,e= .returned (.tuple #[.agg ds.toArray,.int .i64 (kD1 b s)])∧kIW w.heap.size w' ds (kIN b s))∧Below w.heap.size w w':=by
 have HCV:Hid (∀ W,Below w.heap.size w W→Calls Tryz.prog 30 #[.agg cs.toArray] W fun e w'=>e= .returned (.bool true)∧Below W.heap.size W w') :=
  hJ (fun W hW=>hv ▸ kA6 (RSch.below h hW) (kJP hv) (E.below hW))
 have HCB:Hid (∀ W,Below w.heap.size w W→Calls Tryz.prog 43 #[.slice a nb cb] W fun e w'=>e= .returned (.bool true)∧Below W.heap.size W w') :=
  hJ (fun W hW=>kEN b a nb cb W (hbs.below hW) hb (E.below hW))
 have EE:=hJ E;have HCT:=hJ (fun (W:World) (hW:Below w.heap.size w W) (x:Typ) (ds:List Value) (hx:RTyp.rd S W ds x) (hvx:kAD x=true)=>types_Subst hx hvx b a nb cb (hbs.below hW) hb hp (E.below hW));have HCL:=hJ (fun (W:World) (hW:Below w.heap.size w W) (x:Lin) (ds:List Value) (hx:RLin.rd S W ds x) (hvx:kAC x=true)=>kEL hx hvx b a nb cb (hbs.below hW) (kIL hb) (E.below hW));obtain ⟨_,_,_,rfl,⟨ap,cp,rfl,hps⟩,⟨ar,cr,rfl,hrs⟩,⟨aq,cq,rfl,hqs⟩⟩:=h;have HPs:=hJ hps;have HRs:=hJ hrs;have HQs:=hJ hqs;have HV:=hJ (kAY hv);have HGood:=hJ (fun q1 q2 q3=>sch_good (b:=b) (s:=s) hv hb q1 q2 q3);have hpm:=hps.small;have hqm:=hqs.small;have hp12:=(kAY hv).1;have hq60:=(kAY hv).2.1;clear hps hrs hqs hbs hv hb hp;generalize hnn:s.params.length=n at *;generalize hmm:s.wh.length=m at *;have HN:=hJ hnn;have HM:=hJ hmm;clear hnn hmm;obtain ⟨B0,ya,yb,hW0⟩:=box2 w 29 [.slice ap n cp,.string s.result.elem,.string s.result.shape.row,.slice ar s.result.shape.dims.length cr,.slice aq m cq] 29 [.slice none 0 0,.string ⟨#[]⟩,.string ⟨#[]⟩,.slice none 0 0,.slice none 0 0];have xa0:=box0 ya 0 _ rfl;have xa1:=box0 ya 1 _ rfl;have xa2:=box0 ya 2 _ rfl;have xa3:=box0 ya 3 _ rfl;have xa4:=box0 ya 4 _ rfl;have xb0:=box0 yb 0 _ rfl;have xb1:=box0 yb 1 _ rfl;have xb2:=box0 yb 2 _ rfl;have xb3:=box0 yb 3 _ rfl;have xb4:=box0 yb 4 _ rfl;have bka:Bx _ _ _ _:=ya;have bkb:Bx _ _ _ _:=yb;clear ya yb;have HA0:=hJ bka;have HR0:=hJ bkb;clear bka bkb;go_enter func13,ntmps13
 go_wp2_with fail
 refine (HCV.out _ B0.out).mono ?_;rintro e w1 ⟨rfl,hb1⟩;have hW1:=B0.out.trans (hb1.mono B0.out.size)
 go_wp2_with fail
 refine (HCB.out _ hW1).mono ?_;rintro e w2 ⟨rfl,hb2⟩;have HW:=hJ (hW1.trans (hb2.mono hW1.size));have HA2:=hJ ((HA0.out.below hb1 HA0.out.lt).below hb2 (HA0.out.below hb1 HA0.out.lt).lt);have HR2:=hJ ((HR0.out.below hb1 HR0.out.lt).below hb2 (HR0.out.below hb1 HR0.out.lt).lt);have hlR:=HR2.out.lt;have hlA:=HA2.out.lt;clear xa0 xa1 xa2 xa3 xa4 xb0 xb1 xb2 xb3 xb4 hb1 hb2 hW1 HR0 HA0 B0 HCV HCB;obtain ⟨w3,hw3⟩:∃ q,q=w2.alloc (.cells #[.slice none 0 0,.string ⟨#[]⟩,.string ⟨#[]⟩,.slice none 0 0,.slice none 0 0] 29):=⟨_,rfl⟩
 have hfold:=hw3.symm;have HG3:Hid (Bx w3 w2.heap.size 29 [.slice none 0 0,.string ⟨#[]⟩,.string ⟨#[]⟩,.slice none 0 0,.slice none 0 0]):=hJ (by rw [hw3];exact Bx.fresh _ _ _);have HB3:Hid (Below w2.heap.size w2 w3):=hJ (by rw [hw3];exact (Below.refl _ _).alloc (Nat.le_refl _) _);clear hw3;have HA3:=hJ (HA2.out.below HB3.out hlA);have y0:=HA3.out.cell 0 _ rfl;have y1:=HA3.out.cell 1 _ rfl;have y2:=HA3.out.cell 2 _ rfl;have y3:=HA3.out.cell 3 _ rfl;have y4:=HA3.out.cell 4 _ rfl
 go_wp2_with fail
 go_loopw [24] (fun i wr=>∃ (k:Nat) (v0:Value),k≤n∧i= .int .i64 k∧Hid (∀ j,j<k→kBF b (s.params.getD j default).shape=true)∧Hid (Own RTyp 26 (fun q=>w2.heap.size<q) wr (w2.heap.size+1) v0 ((s.params.take k).map (kBZ b)))∧Hid (Bx wr w2.heap.size 29 [v0,.string ⟨#[]⟩,.string ⟨#[]⟩,.slice none 0 0,.slice none 0 0])∧Below w2.heap.size w2 wr) (fun i _=>n - (intOf i).toNat)
 case atStart=>exact ⟨0,_,Nat.zero_le _,rfl,hJ (fun i hi=>absurd hi (by omega)),hJ (Own.nil _ _ _ _ _),HG3,HB3.out⟩
 case round =>
  obtain ⟨k,v0,hk,rfl,HT,HO,HG,hB⟩:=hrel;have HBw:=hJ (HW.out.trans (hB.mono HW.out.size));have HRr:=hJ (HR2.out.below hB hlR);have hlG:=HG.out.lt;obtain ⟨a0,m0,c0,rfl⟩:=HO.out.shape;by_cases hlt:k<n
  · obtain ⟨b1,off,rfl,hbW,_⟩:=HPs.out.form k hlt
    obtain ⟨t,hr,⟨at_,ct,rfl,hts⟩,e0,e1,e2⟩:=(HPs.out.below HBw.out).typ k hlt;have HK:Hid (k<s.params.length):=hJ (by rw [HN.out];exact hlt);have HNext:Hid ((s.params.take (k+1)).map (kBZ b)=(s.params.take k).map (kBZ b)++[kBZ b (s.params.getD k default)]):=hJ (by rw [kAX HK.out,List.map_append];rfl);have hkl:((s.params.take k).map (kBZ b)).length=k:=by rw [List.length_map,List.length_take,HN.out];omega
    have HBad:=hJ (fun q=>sch_badP (b:=b) HK.out q);have HUp:=hJ (fun q=>upto HT.out (p:=fun j=>kBF b (s.params.getD j default).shape=true) q);have HXv:=hJ (HV.out.2.2.1 _ (kAJ HK.out));generalize s.params.getD k default=x at *;generalize (s.params.take k).map (kBZ b)=lk at *;have hA:Below wr.heap.size wr (wr.alloc (.cells #[.string x.elem,.string x.shape.row,.slice at_ x.shape.dims.length ct] 26)):=(Below.refl _ _).alloc (Nat.le_refl _) _;have HCx:=hJ (HCT.out _ (HBw.out.trans (hA.mono HBw.out.size)) x _ (RTyp.below hr hA) HXv.out);clear hr hts;cases hok:kBF b x.shape with
    | false =>
      have HBd:=hJ (HBad.out hok);rw [(kEE hok).1,(kEE hok).2.1] at HCx;clear hok
      go_wp2_with fail
      refine HCx.out.mono ?_;rintro e w5 ⟨⟨_,rfl,hr5⟩,hb5⟩;obtain ⟨_,rfl,a5,c5,rfl,hs5⟩:=hr5;have HP5:=hJ ((Bx.fresh wr 26 [.string x.elem,.string x.shape.row,.slice at_ x.shape.dims.length ct]).below hb5 (Bx.fresh _ _ _).lt);have p0:=HP5.out.cell 0 _ rfl;have p1:=HP5.out.cell 1 _ rfl;have p2:=HP5.out.cell 2 _ rfl;have u10:=HP5.out.fz 0;have u11:=HP5.out.fz 1;have u12:=HP5.out.fz 2;have HB5:=hJ (hA.trans (hb5.mono (by simp)));have HR5:=hJ (HRr.out.below HB5.out HRr.out.lt);obtain ⟨w7,hfold7⟩:∃ q,((w5.setCell ⟨wr.heap.size,0,none⟩ (.string kBJ.elem)).setCell ⟨wr.heap.size,1,none⟩ (.string kBJ.shape.row)).setCell ⟨wr.heap.size,2,none⟩ (.slice a5 kBJ.shape.dims.length c5)=q:=⟨_,rfl⟩
      have HRw:=hJ (HR5.out.other3 (g':=wr.heap.size) (by omega) (.string kBJ.elem) (.string kBJ.shape.row) (.slice a5 kBJ.shape.dims.length c5));rw [hfold7] at HRw;have HWw:Hid (Below w.heap.size w w7):=hJ (by rw [← hfold7];exact (((HBw.out.trans (HB5.out.mono HBw.out.size)).setCell (by show _≤wr.heap.size;omega) _).setCell (by show _≤wr.heap.size;omega) _).setCell (by show _≤wr.heap.size;omega) _);have v0:=HRw.out.cell 0 _ rfl;have v1:=HRw.out.cell 1 _ rfl;have v2:=HRw.out.cell 2 _ rfl;have v3:=HRw.out.cell 3 _ rfl;have v4:=HRw.out.cell 4 _ rfl;have u0:=HRw.out.fz 0;have u1:=HRw.out.fz 1;have u2:=HRw.out.fz 2;have u3:=HRw.out.fz 3;have u4:=HRw.out.fz 4;have hlr:=HRw.out.lt;have HX60:=hJ (((((HRw.out.set 0 (.slice none 0 0)).set 1 (.string ⟨#[]⟩)).set 2 (.string ⟨#[]⟩)).set 3 (.slice none 0 0)).set 4 (.slice none 0 0));have s0:=HX60.out.cell 0 _ rfl;have s1:=HX60.out.cell 1 _ rfl;have s2:=HX60.out.cell 2 _ rfl;have s3:=HX60.out.cell 3 _ rfl;have s4:=HX60.out.cell 4 _ rfl
      go_wp2_with fail
      refine bodyPost_ret (v:=.tuple #[.agg #[.slice none 0 0,.string ⟨#[]⟩,.string ⟨#[]⟩,.slice none 0 0,.slice none 0 0],.int .i64 3]) (by simp [results,results13,go_sem,s0,s1,s2,s3,s4,hlr]) rfl ?_;refine ⟨⟨[.slice none 0 0,.string ⟨#[]⟩,.string ⟨#[]⟩,.slice none 0 0,.slice none 0 0],by rw [HBd.out.2],by rw [HBd.out.1];exact kIW.no ..⟩,?_⟩
      repeat (first | exact HWw.out | refine Below.setCell ?_ (by show _≤w.heap.size+1;omega) _)
    | true =>
      have HUp:=hJ (HUp.out hok);rw [(kHH hok).1,(kHH hok).2.1] at HCx;clear hok HBad
      go_wp2_with fail
      refine HCx.out.mono ?_;rintro e w5 ⟨⟨_,rfl,hr5⟩,hb5⟩;obtain ⟨_,rfl,a5,c5,rfl,hs5⟩:=hr5;generalize kBZ b x=y at *;have HP5:=hJ ((Bx.fresh wr 26 [.string x.elem,.string x.shape.row,.slice at_ x.shape.dims.length ct]).below hb5 (Bx.fresh _ _ _).lt);have HB5:=hJ (hA.trans (hb5.mono (by simp)));have p0:=HP5.out.cell 0 _ rfl;have p1:=HP5.out.cell 1 _ rfl;have p2:=HP5.out.cell 2 _ rfl;have u10:=HP5.out.fz 0;have u11:=HP5.out.fz 1;have u12:=HP5.out.fz 2;obtain ⟨w7,hfold7⟩:∃ q,((w5.setCell ⟨wr.heap.size,0,none⟩ (.string y.elem)).setCell ⟨wr.heap.size,1,none⟩ (.string y.shape.row)).setCell ⟨wr.heap.size,2,none⟩ (.slice a5 y.shape.dims.length c5)=q:=⟨_,rfl⟩
      have HB7:Hid (Below wr.heap.size wr w7):=hJ (by rw [← hfold7];exact ((HB5.out.setCell (by exact Nat.le_refl _) _).setCell (by exact Nat.le_refl _) _).setCell (by exact Nat.le_refl _) _);have HP7:=hJ (((HP5.out.set 0 (.string y.elem)).set 1 (.string y.shape.row)).set 2 (.slice a5 y.shape.dims.length c5));rw [hfold7] at HP7;have r0:=HP7.out.cell 0 _ rfl;have r1:=HP7.out.cell 1 _ rfl;have r2:=HP7.out.cell 2 _ rfl;have HG7:=hJ (HG.out.below HB7.out hlG);have g0:=HG7.out.cell 0 _ rfl;have hs7:=HB7.out.size
      have HRY:Hid (RTyp.rd (fun q=>w2.heap.size<q∧(Value.slice a0 m0 c0).ownBlock≠some q) w7 [.string y.elem,.string y.shape.row,.slice a5 y.shape.dims.length c5] y):=hJ ⟨_,rfl,a5,c5,rfl,by
       rw [← hfold7]
       have h1:=hs5.mono (S':=fun q=>wr.heap.size<q) (fun q hq _=>by have hq:wr.heap.size+1≤q:=by simpa using hq
                                                                     omega)
       refine Sl.mono (S:=fun q=>wr.heap.size<q) ?_ (fun q hq _=>⟨by have:wr.heap.size<q:=hq;omega,fun e=>by have h8:=(HO.out.block e).2;have:wr.heap.size<q:=hq;omega⟩);exact ((h1.set (fun q hq=>Nat.ne_of_lt hq)).set (fun q hq=>Nat.ne_of_lt hq)).set (fun q hq=>Nat.ne_of_lt hq)⟩
      clear hs5 hb5 HP5
      go_wp2_with (at_builtin;refine kAZ kG4 rfl _ _ rfl (w2.heap.size+1) _ _ rfl ((HO.out.below HB7.out).alloc _) _ y [.string y.elem,.string y.shape.row,.slice a5 y.shape.dims.length c5] rfl (RTyp.below HRY.out ((Below.refl _ _).alloc (Nat.le_refl _) _)) (kA2 26 (by (simp only [kAL,kAH,Array.getElem?_push,Array.size_push];simp))) (by omega) (by unfold maxLen;omega) (by simp;omega) ?_;intro v9 w9 hown9 hb9 hk9;obtain ⟨a9,m9,c9,rfl⟩:=hown9.shape;have HG9:=hJ ((HG7.out.alloc _).kp hk9 (HO.out.ne (Nat.lt_succ_self _)));have g9:=HG9.out.cell 0 _ rfl;have u9:=HG9.out.fz 0)
      go_roundw
      case rel=>exact ⟨k+1,_,by omega,by go_num,HUp,hJ (by rw [HNext.out];exact hown9.set _ (fun q hq=>Nat.ne_of_gt hq) (Nat.lt_succ_self _)),hJ (HG9.out.set 0 _),((hB.trans (HB7.out.mono hB.size)).trans (((Below.refl _ _).alloc (by omega) _).trans (hb9.mono (Nat.le_succ _)))).setCell (Nat.le_refl _) _⟩
      case measure=>simp [intOf];omega
  · obtain rfl:k=n:=by omega
    have HAll:Hid ((s.params.take k).map (kBZ b)=s.params.map (kBZ b)):=hJ (by rw [List.take_of_length_le (by rw [HN.out];exact Nat.le_refl _)]);rw [HAll.out] at HO;have HAr:=hJ (HA2.out.below hB hlA);have y0:=HAr.out.cell 0 _ rfl;have y1:=HAr.out.cell 1 _ rfl;have y2:=HAr.out.cell 2 _ rfl;have y3:=HAr.out.cell 3 _ rfl;have y4:=HAr.out.cell 4 _ rfl;have HCx:=hJ (HCT.out _ HBw.out s.result _ ⟨_,rfl,ar,cr,rfl,HRs.out.below HBw.out⟩ HV.out.2.2.2.1);have g0:=HG.out.cell 0 _ rfl;cases hok:kBF b s.result.shape with
    | false =>
      have HBd:=hJ (sch_badR (b:=b) hok);rw [(kEE hok).1,(kEE hok).2.1] at HCx;clear hok
      go_wp2_with fail
      refine HCx.out.mono ?_;rintro e w5 ⟨⟨_,rfl,hr5⟩,hb5⟩;obtain ⟨_,rfl,a5,c5,rfl,hs5⟩:=hr5;have HB5:=hJ hb5;have HG5:=hJ (HG.out.below hb5 hlG);have HR5:=hJ (HRr.out.below hb5 HRr.out.lt);have g1:=HG5.out.cell 1 _ rfl;have g2:=HG5.out.cell 2 _ rfl;have g3:=HG5.out.cell 3 _ rfl;have u11:=HG5.out.fz 1;have u12:=HG5.out.fz 2;have u13:=HG5.out.fz 3;obtain ⟨w7,hfold7⟩:∃ q,((w5.setCell ⟨w2.heap.size,1,none⟩ (.string kBJ.elem)).setCell ⟨w2.heap.size,2,none⟩ (.string kBJ.shape.row)).setCell ⟨w2.heap.size,3,none⟩ (.slice a5 kBJ.shape.dims.length c5)=q:=⟨_,rfl⟩
      have HRw:=hJ (((HR5.out.other (a:=⟨w2.heap.size,1,none⟩) (u:=.string kBJ.elem) (by show w2.heap.size≠_;omega)).other (a:=⟨w2.heap.size,2,none⟩) (u:=.string kBJ.shape.row) (by show w2.heap.size≠_;omega)).other (a:=⟨w2.heap.size,3,none⟩) (u:=.slice a5 kBJ.shape.dims.length c5) (by show w2.heap.size≠_;omega));rw [hfold7] at HRw;have hsz2:=HW.out.size;have HWw:Hid (Below w.heap.size w w7):=hJ (by rw [← hfold7];exact (((HBw.out.trans (HB5.out.mono HBw.out.size)).setCell (by show _≤w2.heap.size;omega) _).setCell (by show _≤w2.heap.size;omega) _).setCell (by show _≤w2.heap.size;omega) _);have v0:=HRw.out.cell 0 _ rfl;have v1:=HRw.out.cell 1 _ rfl;have v2:=HRw.out.cell 2 _ rfl;have v3:=HRw.out.cell 3 _ rfl;have v4:=HRw.out.cell 4 _ rfl;have u0:=HRw.out.fz 0;have u1:=HRw.out.fz 1;have u2:=HRw.out.fz 2;have u3:=HRw.out.fz 3;have u4:=HRw.out.fz 4;have hlr:=HRw.out.lt;have HX60:=hJ (((((HRw.out.set 0 (.slice none 0 0)).set 1 (.string ⟨#[]⟩)).set 2 (.string ⟨#[]⟩)).set 3 (.slice none 0 0)).set 4 (.slice none 0 0));have s0:=HX60.out.cell 0 _ rfl;have s1:=HX60.out.cell 1 _ rfl;have s2:=HX60.out.cell 2 _ rfl;have s3:=HX60.out.cell 3 _ rfl;have s4:=HX60.out.cell 4 _ rfl
      go_wp2_with fail
      refine bodyPost_ret (v:=.tuple #[.agg #[.slice none 0 0,.string ⟨#[]⟩,.string ⟨#[]⟩,.slice none 0 0,.slice none 0 0],.int .i64 3]) (by simp [results,results13,go_sem,s0,s1,s2,s3,s4,hlr]) rfl ?_;refine ⟨⟨[.slice none 0 0,.string ⟨#[]⟩,.string ⟨#[]⟩,.slice none 0 0,.slice none 0 0],by rw [HBd.out.2],by rw [HBd.out.1];exact kIW.no ..⟩,?_⟩
      repeat (first | exact HWw.out | refine Below.setCell ?_ (by show _≤w.heap.size+1;omega) _)
    | true =>
      have HokR:=hJ hok;rw [(kHH hok).1,(kHH hok).2.1] at HCx;clear hok
      go_wp2_with fail
      refine HCx.out.mono ?_;rintro e w5 ⟨⟨_,rfl,hr5⟩,hb5⟩;obtain ⟨_,rfl,a5,c5,rfl,hs5⟩:=hr5;obtain ⟨y,hy⟩:∃ y,y=kBZ b s.result:=⟨_,rfl⟩
      have HY:=hJ hy;rw [← hy] at hs5 ⊢;clear hy;have HB5:=hJ hb5;have HG5:=hJ (HG.out.below hb5 hlG);have HR5:=hJ (HRr.out.below hb5 HRr.out.lt);have HA5:=hJ (HAr.out.below hb5 HAr.out.lt);have g1:=HG5.out.cell 1 _ rfl;have g2:=HG5.out.cell 2 _ rfl;have g3:=HG5.out.cell 3 _ rfl;have u11:=HG5.out.fz 1;have u12:=HG5.out.fz 2;have u13:=HG5.out.fz 3;obtain ⟨w7,hfold7⟩:∃ q,((w5.setCell ⟨w2.heap.size,1,none⟩ (.string y.elem)).setCell ⟨w2.heap.size,2,none⟩ (.string y.shape.row)).setCell ⟨w2.heap.size,3,none⟩ (.slice a5 y.shape.dims.length c5)=q:=⟨_,rfl⟩
      have hne:∀ g,g<w2.heap.size→w2.heap.size≠g:=fun g hg=>by omega
      have hsz2:=HW.out.size;have HR7:Hid (Bx w7 _ _ _):=hJ (hfold7 ▸ ((HR5.out.other (a:=⟨w2.heap.size,1,none⟩) (hne _ hlR)).other (a:=⟨w2.heap.size,2,none⟩) (hne _ hlR)).other (a:=⟨w2.heap.size,3,none⟩) (hne _ hlR));have HA7:Hid (Bx w7 _ _ _):=hJ (hfold7 ▸ ((HA5.out.other (a:=⟨w2.heap.size,1,none⟩) (hne _ hlA)).other (a:=⟨w2.heap.size,2,none⟩) (hne _ hlA)).other (a:=⟨w2.heap.size,3,none⟩) (hne _ hlA));have HG7:Hid (Bx w7 _ _ _):=hJ (hfold7 ▸ ((HG5.out.set 1 (.string y.elem)).set 2 (.string y.shape.row)).set 3 (.slice a5 y.shape.dims.length c5));have HO7:Hid (Own RTyp 26 (fun q=>w2.heap.size<q) w7 _ _ _):=hJ (hfold7 ▸ (((HO.out.below hb5).set (a:=⟨w2.heap.size,1,none⟩) _ (fun q hq=>Nat.ne_of_gt hq) (Nat.lt_succ_self _)).set (a:=⟨w2.heap.size,2,none⟩) _ (fun q hq=>Nat.ne_of_gt hq) (Nat.lt_succ_self _)).set (a:=⟨w2.heap.size,3,none⟩) _ (fun q hq=>Nat.ne_of_gt hq) (Nat.lt_succ_self _));have HS7:Hid (Sl RLin (fun q=>w2.heap.size<q) w7 _ _ _ _):=hJ (hfold7 ▸ (((hs5.mono (S':=fun q=>w2.heap.size<q) (fun q hq _=>by have hq:wr.heap.size≤q:=hq;omega)).set (ad:=⟨w2.heap.size,1,none⟩) (fun q hq=>Nat.ne_of_lt hq)).set (ad:=⟨w2.heap.size,2,none⟩) (fun q hq=>Nat.ne_of_lt hq)).set (ad:=⟨w2.heap.size,3,none⟩) (fun q hq=>Nat.ne_of_lt hq));have HB7:Hid (Below w2.heap.size w2 w7):=hJ (by rw [← hfold7];exact (((hB.trans (hb5.mono hB.size)).setCell (by exact Nat.le_refl _) _).setCell (by exact Nat.le_refl _) _).setCell (by exact Nat.le_refl _) _);have g4:=HA7.out.cell 4 _ rfl;have hl7:=HG7.out.lt;clear HCx HG HO HAr HRr HA2 HR2 HG5 HR5 HA5 HB5 hb5 hs5 hB HBw
      go_wp2_with fail
      have HMore:Hid (∀ W:World,W.heap[w.heap.size]? =w7.heap[w.heap.size]? →W.cell? ⟨w.heap.size,4,none⟩=some (.slice aq m cq)):=hJ (fun W q=>Bx.cell (w:=W) (q.trans HA7.out) 4 _ rfl)
      go_loopw [60] (fun i wt=>∃ (k:Nat) (v0:Value),k≤m∧i= .int .i64 k∧Hid (∀ j,j<k→kAC (kAM b (s.wh.getD j default))=true)∧Hid (Own RLin 45 (fun q=>w7.heap.size≤q) wt w7.heap.size v0 ((s.wh.take k).map (kAM b)))∧Hid (Bx wt w2.heap.size 29 [.slice a0 m0 c0,.string y.elem,.string y.shape.row,.slice a5 y.shape.dims.length c5,v0])∧Below w2.heap.size w2 wt∧Hid (∀ q,q<w7.heap.size→q≠w2.heap.size→wt.heap[q]? =w7.heap[q]?)∧w7.heap.size≤wt.heap.size) (fun i _=>m - (intOf i).toNat)
      case atStart=>exact ⟨0,_,Nat.zero_le _,rfl,hJ (fun i hi=>absurd hi (by omega)),hJ (Own.nil _ _ _ _ _),HG7,HB7.out,hJ (fun _ _ _=>rfl),Nat.le_refl _⟩
      case round =>
       clear HG7;obtain ⟨k,v0,hk,rfl,HTw,HOw,HG,hB,HKeep,hsz⟩:=hrel;have HBw:=hJ (HW.out.trans (hB.mono HW.out.size));have HRr:Hid (Bx wr _ _ _):=hJ ((HKeep.out _ HR7.out.lt (by omega)).trans HR7.out);have hlG:=HG.out.lt;have hlR:=HRr.out.lt;obtain ⟨a6,m6,c6,rfl⟩:=HOw.out.shape;have y4:=HMore.out wr (HKeep.out _ (by omega) (by omega));by_cases hlt:k<m
       · obtain ⟨b1,off,rfl,hbW,_⟩:=HQs.out.form k hlt
         obtain ⟨t,hr,⟨at_,ct,rfl,hts⟩,e0,e1⟩:=(HQs.out.below HBw.out).lin k hlt;have HK:Hid (k<s.wh.length):=hJ (by rw [HM.out];exact hlt);have HNext:Hid ((s.wh.take (k+1)).map (kAM b)=(s.wh.take k).map (kAM b)++[kAM b (s.wh.getD k default)]):=hJ (by rw [kAX HK.out,List.map_append];rfl);have hkl:((s.wh.take k).map (kAM b)).length=k:=by rw [List.length_map,List.length_take,HM.out];omega
         have HBad:=hJ (fun q=>sch_badW (b:=b) HK.out q);have HUp:=hJ (fun q=>upto HTw.out (p:=fun j=>kAC (kAM b (s.wh.getD j default))=true) q);have HXv:=hJ (HV.out.2.2.2.2 _ (kAJ HK.out));generalize s.wh.getD k default=x at *;generalize (s.wh.take k).map (kAM b)=lk at *;have hA:Below wr.heap.size wr (wr.alloc (.cells #[.int .i64 x.const,.slice at_ x.terms.length ct] 45)):=(Below.refl _ _).alloc (Nat.le_refl _) _;have HCx:=hJ (HCL.out _ (HBw.out.trans (hA.mono HBw.out.size)) x _ (RLin.below hr hA) HXv.out);clear hr hts;cases hvx:kAC (kAM b x) with
         | false =>
           have HBd:=hJ (HBad.out hvx);rw [(lim_bad hvx).2] at HCx;clear hvx;generalize limL (kAM b x)=z at *
           go_wp2_with fail
           refine HCx.out.mono ?_;rintro e w5 ⟨⟨_,rfl,hr5⟩,hb5⟩;obtain ⟨_,rfl,a8,c8,rfl,hs5⟩:=hr5;have HP5:=hJ ((Bx.fresh wr 45 [.int .i64 x.const,.slice at_ x.terms.length ct]).below hb5 (Bx.fresh _ _ _).lt);have p0:=HP5.out.cell 0 _ rfl;have p1:=HP5.out.cell 1 _ rfl;have u10:=HP5.out.fz 0;have u11:=HP5.out.fz 1;have HB5:=hJ (hA.trans (hb5.mono (by simp)));have HR5:=hJ (HRr.out.below HB5.out HRr.out.lt);obtain ⟨w8,hfold8⟩:∃ q,(w5.setCell ⟨wr.heap.size,0,none⟩ (.int .i64 z.const)).setCell ⟨wr.heap.size,1,none⟩ (.slice a8 z.terms.length c8)=q:=⟨_,rfl⟩
           have HRw:=hJ (HR5.out.other2 (g':=wr.heap.size) (by omega) (.int .i64 z.const) (.slice a8 z.terms.length c8));rw [hfold8] at HRw;have HWw:Hid (Below w.heap.size w w8):=hJ (by rw [← hfold8];exact ((HBw.out.trans (HB5.out.mono HBw.out.size)).setCell (by show _≤wr.heap.size;omega) _).setCell (by show _≤wr.heap.size;omega) _);have v0:=HRw.out.cell 0 _ rfl;have v1:=HRw.out.cell 1 _ rfl;have v2:=HRw.out.cell 2 _ rfl;have v3:=HRw.out.cell 3 _ rfl;have v4:=HRw.out.cell 4 _ rfl;have u0:=HRw.out.fz 0;have u1:=HRw.out.fz 1;have u2:=HRw.out.fz 2;have u3:=HRw.out.fz 3;have u4:=HRw.out.fz 4;have hlr:=HRw.out.lt;have HX60:=hJ (((((HRw.out.set 0 (.slice none 0 0)).set 1 (.string ⟨#[]⟩)).set 2 (.string ⟨#[]⟩)).set 3 (.slice none 0 0)).set 4 (.slice none 0 0));have s0:=HX60.out.cell 0 _ rfl;have s1:=HX60.out.cell 1 _ rfl;have s2:=HX60.out.cell 2 _ rfl;have s3:=HX60.out.cell 3 _ rfl;have s4:=HX60.out.cell 4 _ rfl
           go_wp2_with fail
           refine bodyPost_ret (v:=.tuple #[.agg #[.slice none 0 0,.string ⟨#[]⟩,.string ⟨#[]⟩,.slice none 0 0,.slice none 0 0],.int .i64 3]) (by simp [results,results13,go_sem,s0,s1,s2,s3,s4,hlr]) rfl ?_;refine ⟨⟨[.slice none 0 0,.string ⟨#[]⟩,.string ⟨#[]⟩,.slice none 0 0,.slice none 0 0],by rw [HBd.out.2],by rw [HBd.out.1];exact kIW.no ..⟩,?_⟩
           repeat (first | exact HWw.out | refine Below.setCell ?_ (by show _≤w.heap.size+1;omega) _)
         | true =>
           have HUp2:=hJ (HUp.out hvx);clear HUp;rw [(kJ2 hvx).1,(kJ2 hvx).2] at HCx;clear hvx HBad
           go_wp2_with fail
           refine HCx.out.mono ?_;rintro e w5 ⟨⟨_,rfl,hr5⟩,hb5⟩;obtain ⟨_,rfl,a8,c8,rfl,hs5⟩:=hr5;generalize kAM b x=z at *;have HP5:=hJ ((Bx.fresh wr 45 [.int .i64 x.const,.slice at_ x.terms.length ct]).below hb5 (Bx.fresh _ _ _).lt);have p0:=HP5.out.cell 0 _ rfl;have p1:=HP5.out.cell 1 _ rfl;have u10:=HP5.out.fz 0;have u11:=HP5.out.fz 1;have HB5:=hJ (hA.trans (hb5.mono (by simp)));obtain ⟨w8,hfold8⟩:∃ q,(w5.setCell ⟨wr.heap.size,0,none⟩ (.int .i64 z.const)).setCell ⟨wr.heap.size,1,none⟩ (.slice a8 z.terms.length c8)=q:=⟨_,rfl⟩
           have HB8:Hid (Below wr.heap.size wr w8):=hJ (by rw [← hfold8];exact (HB5.out.setCell (by exact Nat.le_refl _) _).setCell (by exact Nat.le_refl _) _);have HP8:=hJ ((HP5.out.set 0 (.int .i64 z.const)).set 1 (.slice a8 z.terms.length c8));rw [hfold8] at HP8;have r0:=HP8.out.cell 0 _ rfl;have r1:=HP8.out.cell 1 _ rfl
           have HS8:Hid (Sl kBE (fun q=>wr.heap.size≤q) w8 a8 z.terms.length c8 z.terms):=hJ (by
            rw [← hfold8]
            have h1:=hs5.mono (S':=fun q=>wr.heap.size<q) (fun q hq _=>by have hq:wr.heap.size+1≤q:=by simpa using hq
                                                                          omega)
            refine Sl.mono (S:=fun q=>wr.heap.size<q) ?_ (fun q hq _=>Nat.le_of_lt hq);exact (h1.set (fun q hq=>Nat.ne_of_lt hq)).set (fun q hq=>Nat.ne_of_lt hq))
           clear hs5 hb5 HP5;have HG8:=hJ (HG.out.below HB8.out hlG);have g4:=HG8.out.cell 4 _ rfl;have hs8:=HB8.out.size;have HRY:Hid (RLin.rd (fun q=>w7.heap.size≤q∧(Value.slice a6 m6 c6).ownBlock≠some q) w8 [.int .i64 z.const,.slice a8 z.terms.length c8] z):=hJ ⟨_,rfl,a8,c8,rfl,HS8.out.mono (fun q hq _=>⟨by have:wr.heap.size≤q:=hq;omega,fun e=>by have h8:=(HOw.out.block e).2;have:wr.heap.size≤q:=hq;omega⟩)⟩;clear HS8
           go_wp2_with (at_builtin;refine kAZ kCA rfl _ _ rfl w7.heap.size _ _ rfl ((HOw.out.below HB8.out).alloc _) _ z [.int .i64 z.const,.slice a8 z.terms.length c8] rfl (RLin.below HRY.out ((Below.refl _ _).alloc (Nat.le_refl _) _)) (kA2 45 (by (simp only [kAL,kAH,Array.getElem?_push,Array.size_push];simp))) (by omega) (by unfold maxLen;omega) (by simp;omega) ?_;intro v9 w9 hown9 hb9 hk9;obtain ⟨a9,m9,c9,rfl⟩:=hown9.shape;have HG9:=hJ ((HG8.out.alloc _).kp hk9 (HOw.out.ne hl7));have g9:=HG9.out.cell 4 _ rfl;have u9:=HG9.out.fz 4)
           go_roundw
           case rel=>exact ⟨k+1,_,by omega,by go_num,HUp2,hJ (by rw [HNext.out];exact hown9.set _ (fun q hq=>Nat.ne_of_gt (Nat.lt_of_lt_of_le hl7 hq)) hl7),hJ (HG9.out.set 4 _),((hB.trans (HB8.out.mono hB.size)).trans (((Below.refl _ _).alloc (by omega) _).trans (hb9.mono (Nat.le_of_lt hl7)))).setCell (Nat.le_refl _) _,hJ (fun q hq hne=>(kAB (fun e=>hne e.symm)).trans ((((Below.refl _ _).alloc (B:=w7.heap.size) (by omega) _).trans hb9).block q hq |>.trans ((HB8.out.block q (by omega)).trans (HKeep.out q hq hne)))),by have:=hb9.size;simp at this ⊢;omega⟩
           case measure=>simp [intOf];omega
       · obtain rfl:k=m:=by omega
         have HAll:Hid ((s.wh.take k).map (kAM b)=s.wh.map (kAM b)):=hJ (by rw [List.take_of_length_le (by rw [HM.out];exact Nat.le_refl _)]);rw [HAll.out] at HOw;obtain ⟨z1,z2⟩:=HGood.out HT.out HokR.out HTw.out;have HZ1:=hJ z1;have HZ2:=hJ z2;clear z1 z2;have g0:=HG.out.cell 0 _ rfl;have g1:=HG.out.cell 1 _ rfl;have g2:=HG.out.cell 2 _ rfl;have g3:=HG.out.cell 3 _ rfl;have g4:=HG.out.cell 4 _ rfl;have v0:=HRr.out.cell 0 _ rfl;have v1:=HRr.out.cell 1 _ rfl;have v2:=HRr.out.cell 2 _ rfl;have v3:=HRr.out.cell 3 _ rfl;have v4:=HRr.out.cell 4 _ rfl;have u0:=HRr.out.fz 0;have u1:=HRr.out.fz 1;have u2:=HRr.out.fz 2;have u3:=HRr.out.fz 3;have u4:=HRr.out.fz 4;have hlr:=HRr.out.lt;have HX60:=hJ (((((HRr.out.set 0 (.slice a0 m0 c0)).set 1 (.string y.elem)).set 2 (.string y.shape.row)).set 3 (.slice a5 y.shape.dims.length c5)).set 4 (.slice a6 m6 c6));have s0:=HX60.out.cell 0 _ rfl;have s1:=HX60.out.cell 1 _ rfl;have s2:=HX60.out.cell 2 _ rfl;have s3:=HX60.out.cell 3 _ rfl;have s4:=HX60.out.cell 4 _ rfl
         go_wp2_with fail
         refine bodyPost_ret (v:=.tuple #[.agg #[.slice a0 m0 c0,.string y.elem,.string y.shape.row,.slice a5 y.shape.dims.length c5,.slice a6 m6 c6],.int .i64 0]) (by simp [results,results13,go_sem,s0,s1,s2,s3,s4,hlr]) rfl ?_;refine ⟨⟨[.slice a0 m0 c0,.string y.elem,.string y.shape.row,.slice a5 y.shape.dims.length c5,.slice a6 m6 c6],by rw [HZ2.out],?_⟩,?_⟩
         · rw [HZ1.out]
           have q2:=(HS7.out.mono (S':=fun q=>w2.heap.size<q∧q<w7.heap.size) (fun q hq hlt=>⟨hq,hlt⟩)).frame (w':=wr) (fun q hq hlt=>HKeep.out q hlt (Nat.ne_of_gt hq.1));obtain ⟨a10,c10,e10,q1⟩:=HO7.out.sl;have q1:=(q1.mono (S':=fun q=>w2.heap.size<q∧q<w7.heap.size) (fun q hq hlt=>⟨hq.elim id id,hlt⟩)).frame (w':=wr) (fun q hq hlt=>HKeep.out q hlt (Nat.ne_of_gt hq.1));rw [Value.slice.injEq] at e10;obtain ⟨rfl,rfl,rfl⟩:=e10
           have hR2:∀ {α :Type} {R:Rep α} {a:Option Addr} {n c:Nat} {l:List α},Sl R (fun q=>w2.heap.size<q∧q<w7.heap.size) wr a n c l→Sl R (fun k=>w.heap.size≤k∧k<w7.heap.size) (((((wr.setCell ⟨w.heap.size+1,0,none⟩ (.slice a0 (s.params.map (kBZ b)).length c0)).setCell ⟨w.heap.size+1,1,none⟩ (.string y.elem)).setCell ⟨w.heap.size+1,2,none⟩ (.string y.shape.row)).setCell ⟨w.heap.size+1,3,none⟩ (.slice a5 y.shape.dims.length c5)).setCell ⟨w.heap.size+1,4,none⟩ (.slice a6 m6 c6)) a n c l:=by
            intro α R a n c l hs;have hne:∀ q,(w2.heap.size<q∧q<w7.heap.size)→w.heap.size+1≠q:=fun q hq=>by omega
            exact (((((hs.set hne).set hne).set hne).set hne).set hne).mono (fun q hq _=>by omega)
           have hS3:∀ q,w7.heap.size≤q→q≠w.heap.size+1:=fun q hq=>by omega
           have hl3:w.heap.size+1<w7.heap.size:=by omega
           refine ⟨w7.heap.size,_,_,_,by omega,by rw [HY.out];rfl,⟨a0,c0,rfl,hR2 q1⟩,⟨a5,c5,by first | rfl | (rw [HY.out];rfl),?_⟩,((((HOw.out.set _ hS3 hl3).set _ hS3 hl3).set _ hS3 hl3).set _ hS3 hl3).set _ hS3 hl3⟩;have:=hR2 q2
           show Sl RLin _ _ a5 (kBZ b s.result).shape.dims.length c5 (kBZ b s.result).shape.dims
           rw [← HY.out];exact this
         · repeat (first | exact HBw.out | refine Below.setCell ?_ (by show _≤w.heap.size+1;omega) _)
def canErr (s:Sch):Int:=if kAI s then kD1 (ren (kBD s)) s else 1
theorem can_no {s:Sch} (h:kAI s=false):canErr s=1∧can s=kEP:=by
 unfold canErr can canOk kC6;rw [h];exact ⟨rfl,rfl⟩
theorem can_bad {s:Sch} (hv:kAI s=true) (h:kC6 (ren (kBD s)) s=false):canErr s=3∧can s=kEP:=by
 unfold canErr can canOk;rw [hv,h,(sch_no h).2];exact ⟨rfl,rfl⟩
theorem can_good {s:Sch} (hv:kAI s=true) (h:kC6 (ren (kBD s)) s=true):canErr s=0∧can s=⟨s.params.map (kBZ (ren (kBD s))),kBZ (ren (kBD s)) s.result,tidy (s.wh.map (kAM (ren (kBD s))))⟩:=by
 unfold canErr can canOk;rw [hv,h];refine ⟨?_,rfl⟩
 show kD1 _ _=0
 unfold kD1;rw [h];rfl
theorem ren_plain {l:List Bnd} (h:InvV l):PlainB (ren l):=by
 intro y hy;obtain ⟨i,hi,rfl⟩:=List.mem_map.1 hy;have hi:=List.mem_range.1 hi;have hb:=(h.good _ (kAJ hi)).1;unfold renAt renB;generalize l.getD i default=x at *
 split
 · show x.row.dims=[];rw [hb];rfl
 · split
   · show x.row.dims=[];rw [hb];rfl
   · show x.row.dims=[];rw [hb];rfl
theorem Raw.set2 {k:Nat} {E:TypeId} {w:World} {g:Nat} {css:List (List Value)} {rest:List Value} (h:Raw k E w g css rest) {i:Nat} {cs:List Value} (hi:css[i]? =some cs) {j j2:Nat} (hj:j<k) (hj2:j2<k) (u u2:Value):Raw k E ((w.setCell ⟨g,i * k+j,none⟩ u).setCell ⟨g,i * k+j2,none⟩ u2) g (css.set i ((cs.set j u).set j2 u2)) rest:=by
 have hl:i<css.length:=by
  rcases Nat.lt_or_ge i css.length with q | q
  · exact q
  · rw [List.getElem?_eq_none q] at hi;cases hi
 have h2:=(h.set hi hj u).set (i:=i) (cs:=cs.set j u) (List.getElem?_set_self hl) hj2 u2
 rwa [List.set_set] at h2
theorem itoa_nat (n:Nat) (hn:n≤100000) (w:World) (E:Env w):Calls Tryz.prog 88 #[.int .i64 n] w fun e w'=>e= .returned (.string (decS n))∧Below w.heap.size w w':=by
 have h:=kIF (n:Int) (by omega) (by omega) w E;have e:Lib.itoa (n:Int)=Lib.decDigits n:=by unfold Lib.itoa;rw [if_neg (by omega)];simp
 rw [e] at h;exact h
theorem canonical_1 {S:Blk} {x:Lin} {cs:List Value} {w:World} (h:RLin.rd S w cs x) :
 Calls Tryz.prog 91 #[.agg cs.toArray] w fun e w'=>e= .returned (.bool (dropL x))∧Below w.heap.size w w':=by
 have HC:=hJ (fun (W:World) (hW:Below w.heap.size w W)=>linear_Const (RLin.below h hW));obtain ⟨t,rfl,a,c,rfl,hs⟩:=h;have HD:Hid (dropL x=(x.terms.length==0 && decide (0≤x.const))):=hJ rfl;clear hs;obtain ⟨B0,ya,hW0⟩:=box1 w 45 [.int .i64 x.const,.slice a x.terms.length c];have xa0:=box0 ya 0 _ rfl;have xa1:=box0 ya 1 _ rfl;clear ya;generalize x.terms.length=n at *;by_cases h0:n=0
 · have HC2:Hid (∀ W,Below w.heap.size w W→Calls Tryz.prog 92 #[.agg #[.int .i64 x.const,.slice a n c]] W fun e w'=>e= .returned (.tuple #[.int .i64 x.const,.bool true])∧Below W.heap.size W w'):=hJ (fun W hW=>by have:=HC.out W hW;rwa [if_pos h0,decide_eq_true h0] at this)
   have HD2:Hid (dropL x=decide (0≤x.const)):=hJ (by rw [HD.out,show (n==0)=true by simpa using h0];rfl);clear HC h0;go_enter func91,ntmps91
   go_wp2_with fail
   refine (HC2.out _ B0.out).mono ?_;rintro e w1 ⟨rfl,hb⟩
   go_wp2_with fail
   go_ret;exact ⟨by rw [HD2.out];rfl,B0.out.trans (hb.mono B0.out.size)⟩
 · have HC2:Hid (∀ W,Below w.heap.size w W→Calls Tryz.prog 92 #[.agg #[.int .i64 x.const,.slice a n c]] W fun e w'=>e= .returned (.tuple #[.int .i64 0,.bool false])∧Below W.heap.size W w'):=hJ (fun W hW=>by have:=HC.out W hW;rwa [if_neg h0,decide_eq_false h0] at this)
   have HD2:Hid (dropL x=false):=hJ (by rw [HD.out,show (n==0)=false by simpa using h0];rfl);clear HC h0;go_enter func91,ntmps91
   go_wp2_with fail
   refine (HC2.out _ B0.out).mono ?_;rintro e w1 ⟨rfl,hb⟩
   go_wp2_with fail
   go_ret;exact ⟨by rw [HD2.out];rfl,B0.out.trans (hb.mono B0.out.size)⟩
theorem ins_perm (s:Str) (c:Int):∀ (l:List Coef),(∀ t ∈ l,seq t.v s=false)→(ins s c l).Perm (⟨s,c⟩ :: l)
 | [],_=>List.Perm.refl _
 | t :: l,h=>by
   unfold ins
   split
   · exact List.Perm.refl _
   · rw [if_neg (by rw [h t (List.mem_cons_self ..)];decide)]
     exact ((ins_perm s c l (fun u hu=>h u (List.mem_cons_of_mem _ hu))).cons t).trans (List.Perm.swap _ _ _)
theorem plus_perm {l:List Coef} (hs:Srt l) (hz:Nz l) {s:Str} {c:Int} (hc:c≠0) (h:∀ t ∈ l,seq t.v s=false):(plus l s c).Perm (⟨s,c⟩ :: l):=by
 unfold plus;rw [kE8 hs];have hp:=ins_perm s c l h
 have e:(ins s c l).filter nzB=ins s c l:=List.filter_eq_self.2 fun t ht=>by
  have:t.c≠0:=by
   rcases List.mem_cons.1 (hp.mem_iff.1 ht) with q | q
   · rw [q];exact hc
   · exact hz t q
  unfold nzB;exact bne_iff_ne.2 this
 rw [e];exact hp
def renT (f:Str→Str) (l:List Coef):List Coef:=l.map (fun t=>⟨f t.v,t.c⟩)
structure RunOk (f:Str→Str) (c:Int) (done:List Coef) (acc:Lin):Prop where
 con:acc.const=c
 srt:Srt acc.terms
 nz:Nz acc.terms
 perm:acc.terms.Perm (renT f done)
theorem RunOk.step {f:Str→Str} {c:Int} {done:List Coef} {acc:Lin} (h:RunOk f c done acc) {t:Coef} (ht:t.c≠0) (hn:∀ d ∈ done,f d.v≠f t.v):RunOk f c (done++[t]) (kFG acc (varL (f t.v)) t.c):=by
 have e:(kFG acc (varL (f t.v)) t.c).terms=plus acc.terms (f t.v) t.c:=by
  show plus acc.terms (f t.v) (t.c * 1)=_
  rw [Int.mul_one]
 refine ⟨?_,?_,?_,?_⟩
 · show acc.const+t.c * 0=c
   rw [Int.mul_zero,Int.add_zero];exact h.con
 · rw [e];exact kH9 h.srt _ _
 · rw [e];exact plus_nz _ _ _
 · rw [e]
   have hp:=plus_perm h.srt h.nz ht (s:=f t.v) (fun u hu=>by
    obtain ⟨d,hd,q⟩:=List.mem_map.1 (h.perm.mem_iff.1 hu);rw [Bool.eq_false_iff];intro q2;have q3:=(kA4 _ _).1 q2;rw [← q] at q3;exact hn d hd q3)
   refine hp.trans ?_;unfold renT;rw [List.map_append];exact ((h.perm).cons _).trans (List.perm_append_singleton _ _).symm
def Has (l:List Bnd) (k:Int) (v:Str):Prop:=l.any (isB k v)=true
theorem has_app {l m:List Bnd} {k:Int} {v:Str} (h:Has l k v):Has (l++m) k v:=by unfold Has at *;rw [List.any_append,h];rfl
theorem Has.add {l:List Bnd} {k:Int} {v:Str} (h:Has l k v) (k':Int) (v':Str):Has (addV l k' v') k v:=by
 unfold addV
 split
 · exact h
 · exact has_app h
def ax1:Str:=⟨#[40,91,114,46,46,93,105,110,116,44,32,91,110,93,65,41,32,45,62,32,91,110,93,65,32,119,104,101,114,101,32,110,45,49,44,32,109,43,110]⟩
def as1:Sch:=⟨[⟨⟨#[105,110,116]⟩,⟨⟨#[114]⟩,[]⟩⟩,⟨⟨#[65]⟩,⟨⟨#[]⟩,[⟨0,[⟨⟨#[110]⟩,1⟩]⟩]⟩⟩],⟨⟨#[65]⟩,⟨⟨#[]⟩,[⟨0,[⟨⟨#[110]⟩,1⟩]⟩]⟩⟩,[⟨-1,[⟨⟨#[110]⟩,1⟩]⟩,⟨0,[⟨⟨#[109]⟩,1⟩,⟨⟨#[110]⟩,1⟩]⟩]⟩
theorem av1:kAI as1=true:=by kernel_rfl
def ax2:Str:=⟨#[40,91,114,49,46,46,93,105,110,116,44,32,91,110,49,93,65,49,41,32,45,62,32,91,110,49,93,65,49,32,119,104,101,114,101,32,110,49,45,49,44,32,110,49,43,110,50]⟩
def as2:Sch:=⟨[⟨⟨#[105,110,116]⟩,⟨⟨#[114,49]⟩,[]⟩⟩,⟨⟨#[65,49]⟩,⟨⟨#[]⟩,[⟨0,[⟨⟨#[110,49]⟩,1⟩]⟩]⟩⟩],⟨⟨#[65,49]⟩,⟨⟨#[]⟩,[⟨0,[⟨⟨#[110,49]⟩,1⟩]⟩]⟩⟩,[⟨-1,[⟨⟨#[110,49]⟩,1⟩]⟩,⟨0,[⟨⟨#[110,49]⟩,1⟩,⟨⟨#[110,50]⟩,1⟩]⟩]⟩
theorem av2:kAI as2=true:=by kernel_rfl
def ax3:Str:=⟨#[40,91,110,93,65,41,32,45,62,32,65]⟩
def as3:Sch:=⟨[⟨⟨#[65]⟩,⟨⟨#[]⟩,[⟨0,[⟨⟨#[110]⟩,1⟩]⟩]⟩⟩],⟨⟨#[65]⟩,⟨⟨#[]⟩,[]⟩⟩,[]⟩
theorem av3:kAI as3=true:=by kernel_rfl
def ax4:Str:=⟨#[40,91,51,93,105,110,116,41,32,45,62,32,105,110,116]⟩
def as4:Sch:=⟨[⟨⟨#[105,110,116]⟩,⟨⟨#[]⟩,[⟨3,[]⟩]⟩⟩],⟨⟨#[105,110,116]⟩,⟨⟨#[]⟩,[]⟩⟩,[]⟩
theorem av4:kAI as4=true:=by kernel_rfl
theorem at1:kBO as1=ax1:=by kernel_rfl
theorem at2:kBO as2=ax2:=by kernel_rfl
theorem at3:kBO as3=ax3:=by kernel_rfl
theorem at4:kBO as4=ax4:=by kernel_rfl
theorem ar1:kC8 ax1=some as1:=by rw [← at1];exact kF9 av1
theorem ar3:kC8 ax3=some as3:=by rw [← at3];exact kF9 av3
theorem ar4:kC8 ax4=some as4:=by rw [← at4];exact kF9 av4
theorem ac1:can as1=as2∧canErr as1=0:=by constructor <;> kernel_rfl
theorem ap2:kBM as2=ax2:=by unfold kBM;rw [if_pos av2];exact at2
structure Kc (B g:Nat) (w w':World):Prop where
 os:w'.os=w.os
 tape:w'.tape=w.tape
 output:w'.output=w.output
 size:w.heap.size≤w'.heap.size
 block:∀ q,q<B→q≠g→w'.heap[q]? =w.heap[q]?
theorem Kc.of_below {B g:Nat} {w w':World} (h:Below B w w'):Kc B g w w':=⟨h.os,h.tape,h.output,h.size,fun q hq _=>h.block q hq⟩
theorem Kc.set {B g:Nat} {a b:World} (h:Kc B g a b) (o:Nat) (u:Value):Kc B g a (b.setCell ⟨g,o,none⟩ u):=⟨h.os,h.tape,h.output,by simpa using h.size,fun q hq hne=>(kAB (fun e=>hne e.symm)).trans (h.block q hq hne)⟩
theorem Kc.later {B g:Nat} {a b c:World} (h:Kc B g a b) (k:Below B b c):Kc B g a c:=⟨k.os.trans h.os,k.tape.trans h.tape,k.output.trans h.output,Nat.le_trans h.size k.size,fun q hq hne=>(k.block q hq).trans (h.block q hq hne)⟩
theorem Sl.void {α :Type} {R:Rep α} {S S':Blk} {w w':World} {a:Option Addr} {c:Nat} (h:Sl R S w a 0 c []):Sl R S' w' a 0 c []:=⟨h.len,h.cap,h.max,h.nil,fun i x hx=>by simp at hx⟩
theorem av3_vars:kBD as3=[⟨1,nnS,⟨0,[]⟩,⟨⟨#[]⟩,[]⟩,⟨#[]⟩⟩,⟨3,aS,⟨0,[]⟩,⟨⟨#[]⟩,[]⟩,⟨#[]⟩⟩]:=by kernel_rfl
theorem bd3_hit:kBG [bd3] 1 nnS=0:=by kernel_rfl
theorem mat_dims {S T U:Blk} {w:World} {bm base:Nat} {ab ap at_:Option Addr} {cb cp ct:Nat} {cs:List Value} (hM:Bx w bm 113 [.slice ab 1 cb,.slice ap 1 cp,.slice at_ 1 ct]) (hB:Own RBnd 47 (fun _=>False) w base (.slice ab 1 cb) [bA]) (hbase:base≤w.heap.size) (hbm:bm<base) (hp:Sl RLin S w ap 1 cp [pL]) (ht:Sl RLin T w at_ 1 ct [tL]) (hs:RSch.rd U w cs as3) (E:Env w) :
 Calls Tryz.prog 98 #[.pointer (some ⟨bm,0,none⟩),.agg cs.toArray] w fun e w'=>e= .returned (.int .i64 0)∧(∃ ad cd,Bx w' bm 113 [.slice ad 2 cd,.slice ap 1 cp,.slice at_ 1 ct]∧Own RBnd 47 (fun _=>False) w' base (.slice ad 2 cd) [bA,bd3])∧Kc base bm w w':=by
 have hml:=hM.lt;have HP:=hJ hp;have HT:=hJ ht;have HV:=hJ (fun (W:World) (hW:Below w.heap.size w W)=>types_Vars (RSch.below hs hW) av3 (E.below hW));rw [av3_vars] at HV;have HE:=hJ (fun (W:World) (hW:Below w.heap.size w W)=>E.below hW);have HM:=hJ hM;have HO:=hJ hB;obtain ⟨_,_,_,rfl,⟨p1,d1,rfl,_⟩,⟨p2,d2,rfl,_⟩,⟨p3,d3,rfl,_⟩⟩:=hs;clear hM hB hp ht E;obtain ⟨B0,ya,hW0⟩:=box1 w 29 [.slice p1 as3.params.length d1,.string as3.result.elem,.string as3.result.shape.row,.slice p2 as3.result.shape.dims.length d2,.slice p3 as3.wh.length d3];have xa0:=box0 ya 0 _ rfl;have xa1:=box0 ya 1 _ rfl;have xa2:=box0 ya 2 _ rfl;have xa3:=box0 ya 3 _ rfl;have xa4:=box0 ya 4 _ rfl;have bka:Bx _ _ _ _:=ya;clear ya;have HX:=hJ bka;have HM1:=hJ (HM.out.below B0.out hml);clear bka HM;have m1:=HM1.out.cell 1 _ rfl;have m2:=HM1.out.cell 2 _ rfl;have HQ:=hJ (fun (W:World) (hW:Below w.heap.size w W)=>eqn_Match (HP.out.below hW) (HT.out.below hW) (HE.out W hW));go_enter func98,ntmps98
 go_upto_region 1 with fail
 generalize (w.alloc (.cells #[.slice p1 as3.params.length d1,.string as3.result.elem,.string as3.result.shape.row,.slice p2 as3.result.shape.dims.length d2,.slice p3 as3.wh.length d3] 29))=W1 at *
 go_cut [5,6] (fun v5 v6 W=>∃ am cm,v5= .slice am 1 cm∧v6= .int .i64 0∧Hid (Sl RBnd (fun q=>w.heap.size<q) W am 1 cm [bd3])∧Hid (Below W1.heap.size W1 W))
 case first =>
  have hb1:=(Below.refl W1.heap.size W1).drew
  go_region_held3 (fun W=>W.cell? ⟨bm,1,none⟩=some (.slice ap 1 cp)∧W.cell? ⟨bm,2,none⟩=some (.slice at_ 1 ct)) (first | (with_reducible exact ⟨m1,m2⟩) | (with_reducible exact ⟨z1,z2⟩) | go_keep) (first
   | (go_at_call 157
      refine (HQ.out W1.drew (B0.out.drew)).mono ?_;rintro e w2 ⟨⟨am,cm,rfl,hbm2⟩,hb2⟩;have hB2:Below W1.heap.size W1 w2:=hb1.trans hb2;have z1:=kAE m1 _ hB2;have z2:=kAE m2 _ hB2)
   | (go_at_call 157
      refine (HQ.out W1 B0.out).mono ?_;rintro e w2 ⟨⟨am,cm,rfl,hbm2⟩,hb2⟩;have hB2:Below W1.heap.size W1 w2:=hb2;have z1:=kAE m1 _ hB2;have z2:=kAE m2 _ hB2))
  all_goals
   have HR:=hJ (hbm2.mono (S':=fun q=>w.heap.size<q) fun q hq _=>by have hq:W1.heap.size≤q:=hq;rw [hW0] at hq;omega);have HBz:=hJ hB2;clear z1 z2 hbm2 hb2 hB2
   go_wp2_with fail
   go_meet
   exact ⟨am,cm,rfl,rfl,HR,HBz⟩
 case rest =>
  obtain ⟨am,cm,rfl,rfl,HMt,HBc⟩:=hcut;clear m1 m2 xa0 xa1 xa2 xa3 xa4 HQ;have HB2:=hJ (B0.out.trans (HBc.out.mono (by rw [hW0];omega)));have HX2:=hJ (HX.out.below HBc.out HX.out.lt);have HM2:=hJ (HM1.out.below HBc.out HM1.out.lt);have xa0:=HX2.out.cell 0 _ rfl;have xa1:=HX2.out.cell 1 _ rfl;have xa2:=HX2.out.cell 2 _ rfl;have xa3:=HX2.out.cell 3 _ rfl;have xa4:=HX2.out.cell 4 _ rfl;clear HX HM1 HBc
  go_wp2_with fail
  refine (HV.out wc HB2.out).mono ?_;rintro e w3 ⟨⟨v,rfl,hv3⟩,hb3⟩;obtain ⟨av,cv,rfl,hv4⟩:=hv3.sl;have hv4:Sl RBnd (fun k=>False∨wc.heap.size≤k) w3 av 2 cv _:=hv4;have HV3:=hJ (hv4.mono (S':=fun k=>w.heap.size≤k∧k<w3.heap.size) fun k hk hlt=>⟨by have hk:wc.heap.size≤k:=hk.elim False.elim id;have:=HB2.out.size;omega,hlt⟩);have HB3:=hJ (HB2.out.trans (hb3.mono HB2.out.size));have HM3:=hJ (HM2.out.below hb3 HM2.out.lt);have HMt3:=hJ (HMt.out.below hb3);have hz3:=hb3.size;clear hv3 hv4 hb3 HV HX2 HM2 HMt xa0 xa1 xa2 xa3 xa4 HB2
  go_wp2_with fail
  refine wp_loop_rounds 3 ?_;rw [rounds_succ];obtain ⟨vb,vo,rfl,hvb,_⟩:=HV3.out.form 0 (by show 0<2;decide);obtain ⟨_,_,_,⟨⟨ta,tc,rfl,_⟩,⟨da,dc,rfl,hda⟩⟩,e0,e1,e2,e3,e4,e5,e6⟩:=HV3.out.bnd 0 (by show 0<2;decide);have c0:w3.cell? ⟨vb,vo,none⟩=some (.int .i64 1):=e0;have c1:w3.cell? ⟨vb,vo+1,none⟩=some (.string nnS):=e1;have c2:w3.cell? ⟨vb,vo+2,none⟩=some (.int .i64 0):=e2;have c3:w3.cell? ⟨vb,vo+3,none⟩=some (.slice ta 0 tc):=e3;have c4:w3.cell? ⟨vb,vo+4,none⟩=some (.string ⟨#[]⟩):=e4;have c5:w3.cell? ⟨vb,vo+5,none⟩=some (.slice da 0 dc):=e5;have c6:w3.cell? ⟨vb,vo+6,none⟩=some (.string ⟨#[]⟩):=e6;have hda:Sl RLin _ w3 da 0 dc []:=hda;have HDa:=hJ (fun W=>hda.void (S':=fun k=>False∧(Value.slice ab 1 cb).ownBlock≠some k) (w':=W));clear e0 e1 e2 e3 e4 e5 e6 hv4 hda;have HF:=hJ (fun (W:World) (hW:Below w3.heap.size w3 W)=>kFY [bd3] am 1 cm W (HMt3.out.below hW) 1 nnS);rw [bd3_hit] at HF
  go_wp2_with fail
  have hBx:=(Below.refl w3.heap.size w3).alloc (Nat.le_refl _) (.cells #[.int .i64 1,.string nnS,.int .i64 0,.slice ta 0 tc,.string ⟨#[]⟩,.slice da 0 dc,.string ⟨#[]⟩] 47);have HX3:=hJ (Bx.fresh w3 47 [.int .i64 1,.string nnS,.int .i64 0,.slice ta 0 tc,.string ⟨#[]⟩,.slice da 0 dc,.string ⟨#[]⟩]);refine ((HF.out _ hBx)).mono ?_;rintro e w4 ⟨rfl,hb4⟩;have HX4:=hJ (HX3.out.below hb4 HX3.out.lt);have HB34:=hJ (hBx.trans (hb4.mono hBx.size));clear HX3 hb4 hBx c0 c1 c2 c3 c4 c5 c6 HF;have HMt4:=hJ (HMt3.out.below HB34.out);have HM4:=hJ (HM3.out.below HB34.out HM3.out.lt);have HV4:=hJ (HV3.out.below HB34.out);have hz4:=HB34.out.size;have hx4:=HX4.out.lt;have hm3:=HM3.out.lt;clear HMt3 HM3 HV3;obtain ⟨mb,mo,rfl,hmb,_⟩:=HMt4.out.form 0 (by show 0<1;decide);obtain ⟨_,_,_,⟨⟨la,lc,rfl,hla⟩,⟨_,_,rfl,_⟩⟩,_,_,e2,e3,_,_,_⟩:=HMt4.out.bnd 0 (by show 0<1;decide);have f2:w4.cell? ⟨mb,mo+2,none⟩=some (.int .i64 3):=e2;have f3:w4.cell? ⟨mb,mo+3,none⟩=some (.slice la 0 lc):=e3;have hla:Sl kBE _ w4 la 0 lc []:=hla;have HLa:=hJ (fun W=>hla.void (S':=fun k=>False∧(Value.slice ab 1 cb).ownBlock≠some k) (w':=W));clear e2 e3 hla;have g2:=HX4.out.fz 2;have g3:=HX4.out.fz 3;have k2:=HX4.out.cell 2 _ rfl;have k3:=HX4.out.cell 3 _ rfl
  go_upto_region 13 with fail
  have HB45:Hid (Below w3.heap.size w4 ((w4.setCell ⟨w3.heap.size,2,none⟩ (.int .i64 3)).setCell ⟨w3.heap.size,3,none⟩ (.slice la 0 lc))):=hJ (Below.setCell (Below.setCell (Below.refl w3.heap.size w4) (by simp) _) (by simp) _);have HX5:Hid (Bx ((w4.setCell ⟨w3.heap.size,2,none⟩ (.int .i64 3)).setCell ⟨w3.heap.size,3,none⟩ (.slice la 0 lc)) w3.heap.size 47 [.int .i64 1,.string nnS,.int .i64 3,.slice la 0 lc,.string ⟨#[]⟩,.slice da 0 dc,.string ⟨#[]⟩]):=hJ ((HX4.out.set 2 _).set 3 _);clear g2 g3 k2 k3 f2 f3;generalize ((w4.setCell ⟨w3.heap.size,2,none⟩ (.int .i64 3)).setCell ⟨w3.heap.size,3,none⟩ (.slice la 0 lc))=W5 at *;have HM5:=hJ (HM4.out.below HB45.out hm3);have HV5:=hJ (HV4.out.frame (w':=W5) fun k hk _=>HB45.out.block k hk.2);have HB5:=hJ (HB3.out.trans ((HB34.out.trans HB45.out).mono HB3.out.size));have HO5:=hJ (HO.out.below HB5.out);have HOb:Hid (∀ k,(Value.slice ab 1 cb).ownBlock=some k→k<w.heap.size):=hJ fun k e=>(HO.out.block e).2
  have hz5:=HB45.out.size;have hm5:=HM5.out.lt;have hx5:=HX5.out.lt;clear HX4 HM4 HV4 HMt4 HB34 HB45 HB3 HO;have k0:=HX5.out.cell 0 _ rfl;have k1:=HX5.out.cell 1 _ rfl;have k2:=HX5.out.cell 2 _ rfl;have k3:=HX5.out.cell 3 _ rfl;have k4:=HX5.out.cell 4 _ rfl;have k5:=HX5.out.cell 5 _ rfl;have k6:=HX5.out.cell 6 _ rfl;have m0:=HM5.out.cell 0 _ rfl;have hw5:=HB5.out.size
  go_region_law (first
   | (refine kFI kFB rfl (.tmp 53) (.tmp 55) rfl base (.slice ab 1 cb) [bA] rfl (HO5.out.below (by go_grown)) W5.heap.size bd3 [.int .i64 1,.string nnS,.int .i64 3,.slice la 0 lc,.string ⟨#[]⟩,.slice da 0 dc,.string ⟨#[]⟩] rfl ?ry ?rc ?rl ?rm ?rb ?_
      case ry=>first | exact ⟨_,_,rfl,⟨la,lc,rfl,HLa.out _⟩,⟨da,dc,rfl,HDa.out _⟩⟩
      case rc=>first | exact kA2 47 (by (simp only [kAL,kAH,Array.getElem?_push,Array.size_push];simp))
      case rl=>first | (simp;done)
      case rm=>first | (unfold maxLen;simp;done)
      case rb=>first | (simp;omega) | (simp;done)
      intro v5 w6 hown6 hb6 hk6;have hV6:=HV5.out.frame (w':=w6) fun k hk _=>(hk6.block k (by simp <;> omega) (fun e=>by have:=HOb.out k e;omega)).trans (Below.block (B:=W5.heap.size) (w:=W5) (by go_grown) k (by omega))
      obtain ⟨a6,m6,c6,rfl⟩:=hown6.shape;have hB6:Below base W5 w6:=Below.trans ((show Below W5.heap.size W5 _ by go_grown).mono (by omega)) hb6;have HM6:=HM5.out.below hB6 hbm;have z0:=HM6.cell 0 _ rfl;have z1:=HM6.fz 0))
  all_goals
   obtain ⟨a7,c7,e7,_⟩:=hown6.sl;rw [Value.slice.injEq] at e7;have hm7:m6=2:=e7.2.1;subst hm7;clear e7;have ho6:Own RBnd 47 (fun _=>False) w6 base (.slice a6 2 c6) [bA,bd3]:=hown6;have HV6:=hJ (hV6.frame (w':=w6.setCell ⟨bm,0,none⟩ (.slice a6 2 c6)) fun k hk _=>kAB (by show bm≠k;have:=hk.1;omega));have HR:=hJ (And.intro (HM6.set 0 (.slice a6 2 c6)) (And.intro (ho6.set (a:=⟨bm,0,none⟩) (.slice a6 2 c6) (fun _ h=>h.elim) hbm) ((Kc.of_below (g:=bm) ((HB5.out.mono hbase).trans hB6)).set 0 (.slice a6 2 c6))));clear hown6 ho6 hk6 hb6 hB6 HM6 z0 z1 hV6 HM5 HV5 HO5 HB5 k0 k1 k2 k3 k4 k5 k6 m0;obtain ⟨_,_,_,⟨⟨ta2,tc2,rfl,_⟩,⟨da2,dc2,rfl,_⟩⟩,e0,e1,e2,e3,e4,e5,e6⟩:=HV6.out.bnd 1 (by show 1<2;decide);have q0:(w6.setCell ⟨bm,0,none⟩ (.slice a6 2 c6)).cell? ⟨vb,vo+7,none⟩=some (.int .i64 3):=e0;have q1:(w6.setCell ⟨bm,0,none⟩ (.slice a6 2 c6)).cell? ⟨vb,vo+7+1,none⟩=some (.string aS):=e1;have r1:(w6.setCell ⟨bm,0,none⟩ (.slice a6 2 c6)).cell? ⟨vb,vo+8,none⟩=some (.string aS):=e1;have q2:(w6.setCell ⟨bm,0,none⟩ (.slice a6 2 c6)).cell? ⟨vb,vo+7+2,none⟩=some (.int .i64 0):=e2;have r2:(w6.setCell ⟨bm,0,none⟩ (.slice a6 2 c6)).cell? ⟨vb,vo+9,none⟩=some (.int .i64 0):=e2;have q3:(w6.setCell ⟨bm,0,none⟩ (.slice a6 2 c6)).cell? ⟨vb,vo+7+3,none⟩=some (.slice ta2 0 tc2):=e3;have r3:(w6.setCell ⟨bm,0,none⟩ (.slice a6 2 c6)).cell? ⟨vb,vo+10,none⟩=some (.slice ta2 0 tc2):=e3;have q4:(w6.setCell ⟨bm,0,none⟩ (.slice a6 2 c6)).cell? ⟨vb,vo+7+4,none⟩=some (.string ⟨#[]⟩):=e4;have r4:(w6.setCell ⟨bm,0,none⟩ (.slice a6 2 c6)).cell? ⟨vb,vo+11,none⟩=some (.string ⟨#[]⟩):=e4;have q5:(w6.setCell ⟨bm,0,none⟩ (.slice a6 2 c6)).cell? ⟨vb,vo+7+5,none⟩=some (.slice da2 0 dc2):=e5;have r5:(w6.setCell ⟨bm,0,none⟩ (.slice a6 2 c6)).cell? ⟨vb,vo+12,none⟩=some (.slice da2 0 dc2):=e5;have q6:(w6.setCell ⟨bm,0,none⟩ (.slice a6 2 c6)).cell? ⟨vb,vo+7+6,none⟩=some (.string ⟨#[]⟩):=e6;have r6:(w6.setCell ⟨bm,0,none⟩ (.slice a6 2 c6)).cell? ⟨vb,vo+13,none⟩=some (.string ⟨#[]⟩):=e6;clear e0 e1 e2 e3 e4 e5 e6;generalize (w6.setCell ⟨bm,0,none⟩ (.slice a6 2 c6))=W6 at *
   go_wp2_with fail
   rw [rounds_succ]
   go_wp2_with fail
   rw [rounds_succ]
   go_wp2_with fail
   go_ret;exact ⟨rfl,⟨a6,c6,HR.out.1.alloc _,HR.out.2.1.alloc _⟩,HR.out.2.2.later ((Below.refl _ _).alloc (Nat.le_trans hbase HR.out.2.2.size) _)⟩
def cmpZ (a b:Int):Int:=if a<b then -1 else if b<a then 1 else 0
def orZ (a b:Int):Int:=if a=0 then b else a
def cmpK (x y:Bnd):Int:=orZ (cmpZ x.kind y.kind) (cmpS x.v y.v)
theorem cmpK_le (x y:Bnd):cmpK x y≤0 ↔ x.kind<y.kind∨(x.kind=y.kind∧cmpS x.v y.v≤0):=by
 unfold cmpK orZ cmpZ;by_cases h:x.kind<y.kind
 · simp [h]
 · by_cases h2:y.kind<x.kind
   · simp [h,h2];omega
   · have:x.kind=y.kind:=by omega
     simp [this]
theorem preB:PreC cmpK:=⟨fun x y=>by
 unfold cmpK orZ cmpZ;rw [cmpS_anti x.v y.v];by_cases h:x.kind<y.kind
 · have h3:¬ y.kind<x.kind:=by omega
   simp [h,h3]
 · by_cases h2:y.kind<x.kind
   · simp [h,h2]
   · simp [h,h2],
 fun a b c h1 h2=>by
  rw [cmpK_le] at *;rcases h1 with h1 | ⟨h1,h3⟩ <;> rcases h2 with h2 | ⟨h2,h4⟩
  · left;omega
  · left;omega
  · left;omega
  · exact .inr ⟨by omega,preV.trans a b c h3 h4⟩⟩
theorem isNaN_int (a:Int) (w:World):Calls Tryz.prog 163 #[.int .i64 a] w fun e w'=>e= .returned (.bool false)∧w=w':=by
 go_enter func163,ntmps163
 go_wp2_with fail
 go_ret;exact ⟨by simp,rfl⟩
theorem compare_int (a b:Int) (w:World):Calls Tryz.prog 103 #[.int .i64 a,.int .i64 b] w fun e w'=>e= .returned (.int .i64 (cmpZ a b))∧w=w':=by
 have H:=hJ (fun x (W:World)=>isNaN_int x W);have HR1:Hid (a<b→cmpZ a b= -1):=hJ (fun h=>by unfold cmpZ;rw [if_pos h]);have HR2:Hid (¬ a<b→b<a→cmpZ a b=1):=hJ (fun h h2=>by unfold cmpZ;rw [if_neg h,if_pos h2]);have HR3:Hid (¬ a<b→¬ b<a→cmpZ a b=0):=hJ (fun h h2=>by unfold cmpZ;rw [if_neg h,if_neg h2]);by_cases h1:a<b
 · go_enter func103,ntmps103
   go_wp2_with fail
   refine (H.out _ _).mono ?_;rintro e _ ⟨rfl,rfl⟩
   go_wp2_with fail
   refine (H.out _ _).mono ?_;rintro e _ ⟨rfl,rfl⟩
   go_wp2_with fail
   go_ret;exact ⟨by rw [HR1.out h1];rfl,rfl⟩
 · by_cases h2:b<a
   · go_enter func103,ntmps103
     go_wp2_with fail
     refine (H.out _ _).mono ?_;rintro e _ ⟨rfl,rfl⟩
     go_wp2_with fail
     refine (H.out _ _).mono ?_;rintro e _ ⟨rfl,rfl⟩
     go_wp2_with fail
     go_ret;exact ⟨by rw [HR2.out h1 h2];rfl,rfl⟩
   · go_enter func103,ntmps103
     go_wp2_with fail
     refine (H.out _ _).mono ?_;rintro e _ ⟨rfl,rfl⟩
     go_wp2_with fail
     refine (H.out _ _).mono ?_;rintro e _ ⟨rfl,rfl⟩
     go_wp2_with fail
     go_ret;exact ⟨by rw [HR3.out h1 h2];rfl,rfl⟩
theorem or_int (a b:Int) (g:Nat) (w:World) (ha:w.cell? ⟨g,0,none⟩=some (.int .i64 a)) (hb:w.cell? ⟨g,1,none⟩=some (.int .i64 b)):Calls Tryz.prog 102 #[.slice (some ⟨g,0,none⟩) 2 2] w fun e w'=>e= .returned (.int .i64 (orZ a b))∧w=w':=by
 have HR1:Hid (¬ a=0→orZ a b=a):=hJ (fun h=>by unfold orZ;rw [if_neg h]);have HR2:Hid (a=0→orZ a b=b):=hJ (fun h=>by unfold orZ;rw [if_pos h]);by_cases h1:a=0
 · have HS:=hJ h1
   subst h1;by_cases h2:b=0
   · subst h2
     go_enter func102,ntmps102
     go_wp2_with fail
     refine wp_loop_rounds 3 ?_;rw [rounds_succ]
     go_wp2_with fail
     rw [rounds_succ]
     go_wp2_with fail
     rw [rounds_succ]
     go_wp2_with fail
     go_ret;exact ⟨by rw [HR2.out trivial];rfl,rfl⟩
   · go_enter func102,ntmps102
     go_wp2_with fail
     refine wp_loop_rounds 3 ?_;rw [rounds_succ]
     go_wp2_with fail
     rw [rounds_succ]
     go_wp2_with fail
     go_ret;exact ⟨by rw [HR2.out trivial];rfl,rfl⟩
 · go_enter func102,ntmps102
   go_wp2_with fail
   refine wp_loop_rounds 3 ?_;rw [rounds_succ]
   go_wp2_with fail
   go_ret;exact ⟨by rw [HR1.out h1];rfl,rfl⟩
theorem inst_cmp {S T:Blk} {x y:Bnd} {cs ds:List Value} {w:World} (h:RBnd.rd S w cs x) (h2:RBnd.rd T w ds y) :
 Calls Tryz.prog 101 #[.agg cs.toArray,.agg ds.toArray] w fun e w'=>e= .returned (.int .i64 (cmpK x y))∧Below w.heap.size w w':=by
 obtain ⟨_,_,rfl,⟨a1,c1,rfl,_⟩,⟨a2,c2,rfl,_⟩⟩:=h;obtain ⟨_,_,rfl,⟨a3,c3,rfl,_⟩,⟨a4,c4,rfl,_⟩⟩:=h2;have HC:Hid (∀ W,Calls Tryz.prog 103 #[.int .i64 x.kind,.int .i64 y.kind] W fun e w'=>e= .returned (.int .i64 (cmpZ x.kind y.kind))∧W=w'):=hJ (fun W=>compare_int _ _ W);have HS:Hid (∀ W,Calls Tryz.prog 104 #[.string x.v,.string y.v] W fun e w'=>e= .returned (.int .i64 (cmpS x.v y.v))∧W=w'):=hJ (fun W=>kI2 _ _ W);have HK:Hid (cmpK x y=orZ (cmpZ x.kind y.kind) (cmpS x.v y.v)):=hJ rfl;generalize cmpK x y=r at *;obtain ⟨B0,ya,yb,hW0⟩:=box2 w 47 [.int .i64 x.kind,.string x.v,.int .i64 x.dim.const,.slice a1 x.dim.terms.length c1,.string x.row.row,.slice a2 x.row.dims.length c2,.string x.elem] 47 [.int .i64 y.kind,.string y.v,.int .i64 y.dim.const,.slice a3 y.dim.terms.length c3,.string y.row.row,.slice a4 y.row.dims.length c4,.string y.elem];have xa0:=box0 ya 0 _ rfl;have xa1:=box0 ya 1 _ rfl;have xa2:=box0 ya 2 _ rfl;have xa3:=box0 ya 3 _ rfl;have xa4:=box0 ya 4 _ rfl;have xa5:=box0 ya 5 _ rfl;have xa6:=box0 ya 6 _ rfl;have xb0:=box0 yb 0 _ rfl;have xb1:=box0 yb 1 _ rfl;have xb2:=box0 yb 2 _ rfl;have xb3:=box0 yb 3 _ rfl;have xb4:=box0 yb 4 _ rfl;have xb5:=box0 yb 5 _ rfl;have xb6:=box0 yb 6 _ rfl;clear ya yb;generalize cmpZ x.kind y.kind=p at *;generalize cmpS x.v y.v=q at *;go_enter func101,ntmps101
 go_upto_region 1 with fail
 generalize ((w.alloc (.cells #[.int .i64 x.kind,.string x.v,.int .i64 x.dim.const,.slice a1 x.dim.terms.length c1,.string x.row.row,.slice a2 x.row.dims.length c2,.string x.elem] 47)).alloc (.cells #[.int .i64 y.kind,.string y.v,.int .i64 y.dim.const,.slice a3 y.dim.terms.length c3,.string y.row.row,.slice a4 y.row.dims.length c4,.string y.elem] 47))=W at *
 have HO:Hid (Calls Tryz.prog 102 #[.slice (some ⟨w.heap.size+2,0,none⟩) 2 2] (W.alloc (.cells #[.int .i64 p,.int .i64 q] 3)).drew fun e w'=>e= .returned (.int .i64 (orZ p q))∧(W.alloc (.cells #[.int .i64 p,.int .i64 q] 3)).drew=w'):=by
  rw [← hW0];exact hJ (or_int p q _ _ ((Bx.fresh W 3 [.int .i64 p,.int .i64 q]).drew.cell 0 _ rfl) ((Bx.fresh W 3 [.int .i64 p,.int .i64 q]).drew.cell 1 _ rfl))
 go_region_held3 (fun W=>W.cell? ⟨w.heap.size,0,none⟩=some (.int .i64 x.kind)∧W.cell? ⟨w.heap.size,1,none⟩=some (.string x.v)∧W.cell? ⟨w.heap.size+1,0,none⟩=some (.int .i64 y.kind)∧W.cell? ⟨w.heap.size+1,1,none⟩=some (.string y.v)) (first | (with_reducible exact ⟨xa0,xa1,xb0,xb1⟩) | go_keep) (first
  | (go_at_call 103
     refine (HC.out _).mono ?_;rintro e _ ⟨rfl,rfl⟩)
  | (go_at_call 104
     refine (HS.out _).mono ?_;rintro e _ ⟨rfl,rfl⟩)
  | (go_at_call 102
     refine HO.out.mono ?_;rintro e _ ⟨rfl,rfl⟩))
 all_goals go_wp2_with fail
 all_goals go_ret
 all_goals exact ⟨by rw [HK.out];rfl,B0.out.trans (((Below.refl W.heap.size W).alloc (Nat.le_refl _) _).drew.mono (by rw [hW0];omega))⟩
theorem nil_eqlL (w:World):(binOp .eql 22 (.slice none 0 0) (.slice none 0 0)).run Tryz.prog w= .ok (.bool true) w:=by kernel_rfl
theorem some_eqlL (w:World) (ad:Addr) (n c:Nat):(binOp .eql 22 (.slice (some ad) n c) (.slice none 0 0)).run Tryz.prog w= .ok (.bool false) w:=by kernel_rfl
theorem clone_lin0 {S:Blk} (a:Option Addr) (c:Nat) (w:World) (h:Sl RLin S w a 0 c []) :
 Calls Tryz.prog 96 #[.slice a 0 c] w fun e w'=>(∃ v,e= .returned v∧Own RLin 45 (fun _=>False) w' w.heap.size v [])∧Below w.heap.size w w':=by
 cases a with
 | none =>
   have h0:=h.nil rfl;subst h0;have hq:=nil_eqlL;go_enter func96,ntmps96
   go_wp2_with fail
   go_ret;exact ⟨⟨_,rfl,Own.nil _ _ _ _ _⟩,Below.refl _ _⟩
 | some ad =>
   have HS:=hJ (fun W=>h.void (S':=fun k=>False∧(Value.slice (some ⟨w.heap.size,0,none⟩) 0 0).ownBlock≠some k) (w':=W));clear h;have hq:=fun w=>some_eqlL w ad 0 c
   go_enter func96,ntmps96
   go_wp2_with (at_builtin;refine app_sl kCA rfl _ _ rfl w.heap.size _ [] [] rfl (Own.at0 RLin _ (fun _=>False) (by (simp only [kAL,kAH,Array.getElem?_push,Array.size_push];simp)) (Nat.le_refl _)) (some ad) 0 c rfl (HS.out _) (by simp) (by unfold maxLen;simp) (by simp) ?_;intro v9 w9 hown9 hb9 hk9)
   go_ret;exact ⟨⟨v9,rfl,hown9⟩,((Below.refl _ _).alloc (Nat.le_refl _) _).trans hb9⟩
theorem two_sorted {m:List Bnd} (hp:m.Perm [bA,bd3]) (hl:Le cmpK m):m=[bd3,bA]:=by
 have hk:¬ cmpK bA bd3≤0:=by
  rw [cmpK_le];intro h;rcases h with h | ⟨h,_⟩ <;> exact absurd h (by decide)
 have h2:=hp.length_eq
 match m,h2 with
 | [x,y],_ =>
   have hle:cmpK x y≤0:=by
    unfold Le at hl;rw [List.pairwise_cons] at hl;exact hl.1 y (List.mem_cons_self ..)
   have hx:=hp.mem_iff.1 (List.mem_cons_self (a:=x) (l:=[y]));have hy:=hp.mem_iff.1 (List.mem_cons_of_mem x (List.mem_cons_self (a:=y) (l:=[])));have hA:=hp.mem_iff.2 (List.mem_cons_self (a:=bA) (l:=[bd3]));have hB:=hp.mem_iff.2 (List.mem_cons_of_mem bA (List.mem_cons_self (a:=bd3) (l:=[])));have hne:bA≠bd3:=fun e=>hk (by rw [← e];exact absurd (congrArg Bnd.kind e) (by decide))
   simp only [List.mem_cons,List.not_mem_nil,or_false] at hx hy hA hB;rcases hx with rfl | rfl <;> rcases hy with rfl | rfl
   · rcases hB with e | e <;> exact absurd e.symm hne
   · exact absurd hle hk
   · rfl
   · rcases hA with e | e <;> exact absurd e hne
theorem cat_rd {S:Blk} {ps:List Typ} {r:Typ} {ap at_:Option Addr} {n cp L ct:Nat} (w:World) (hp:Sl RTyp S w ap n cp ps) (ht:Sl RLin S w at_ L ct r.shape.dims) (hn:n≤12) (k0 k1:Nat) (h0:k0=w.heap.size) (h1:k1=w.heap.size+1) :
 Calls Tryz.prog 81 #[.slice (some ⟨k1,0,none⟩) 2 2] ((w.alloc (.cells #[.string r.elem,.string r.shape.row,.slice at_ L ct] 26)).alloc (.cells #[.slice ap n cp,.slice (some ⟨k0,0,none⟩) 1 1] 27)) fun e w'=>(∃ a c,e= .returned (.slice a (n+1) c)∧Sl RTyp (fun k=>S k∨w.heap.size≤k) w' a (n+1) c (ps++[r]))∧Below w.heap.size w w':=by
 subst h0 h1;have hl:=hp.len;have hl2:=ht.len;have HA:Below w.heap.size w ((w.alloc (.cells #[.string r.elem,.string r.shape.row,.slice at_ L ct] 26)).alloc (.cells #[.slice ap n cp,.slice (some ⟨w.heap.size,0,none⟩) 1 1] 27)):=((Below.refl _ _).alloc (Nat.le_refl _) _).alloc (by simp) _;subst hl2
 refine (concat_Typ (S1:=S) (S2:=fun k=>S k∨w.heap.size≤k) ps [r] ap n cp (some ⟨w.heap.size,0,none⟩) 1 1 (w.heap.size+1) _
  (by have:=Bx.fresh (w.alloc (.cells #[.string r.elem,.string r.shape.row,.slice at_ r.shape.dims.length ct] 26)) 27 [.slice ap n cp,.slice (some ⟨w.heap.size,0,none⟩) 1 1];simpa using this)
  (hp.below HA)
  (Sl.single (cs:=[.string r.elem,.string r.shape.row,.slice at_ r.shape.dims.length ct]) ((Bx.fresh w 26 [.string r.elem,.string r.shape.row,.slice at_ r.shape.dims.length ct]).alloc _) ⟨_,rfl,at_,ct,rfl,(ht.mono (fun k hk hlt=>.inl hk)).below HA⟩ (.inr (Nat.le_refl _))) (by omega) (by omega)).mono ?_
 rintro e w' ⟨⟨v,rfl,ho⟩,hb⟩;have hz:=HA.size;obtain ⟨a,c,rfl,hs⟩:=ho.sl;have hlen:(ps++[r]).length=n+1:=by rw [List.length_append,hl];rfl
 rw [hlen] at hs ⊢
 exact ⟨⟨a,c,rfl,hs.mono fun k hk _=>by
  rcases hk with (hk | hk | hk) | hk
  · exact .inl hk
  · exact .inl hk
  · exact .inr hk
  · exact .inr (by have:=HA.size;omega)⟩,HA.trans (hb.mono hz)⟩
end Go.Proofs.YtkndimjghfomcaaGreatDoor
