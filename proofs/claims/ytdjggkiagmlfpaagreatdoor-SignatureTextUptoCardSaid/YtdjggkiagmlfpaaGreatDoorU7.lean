/- The claim's texts, part 7: contracts of the functions that the statement reaches, and what they say of the data. -/
import Derived.Test.YtdjggkiagmlfpaaGreatDoorU6
set_option maxRecDepth 100000
set_option maxHeartbeats 8000000
set_option linter.all false
namespace Go.Proofs.YtdjggkiagmlfpaaGreatDoor
open Go.Proofs.Tryz
open Go.RowKit
theorem splitB_mem (p:Str):∀ (k:Nat) (s:Str),∀ x ∈ Lib.splitB p 0 k s,x.size≤s.size
 | 0,s,x,h=>by
   rw [List.mem_singleton.1 h];exact Nat.le_refl _
 | k+1,s,x,h=>by
   unfold Lib.splitB at h
   split at h
   · rw [List.mem_singleton.1 h];exact Nat.le_refl _
   · rcases List.mem_cons.1 h with rfl | h
     · rw [ByteArray.size_extract];omega
     · have:=splitB_mem p k _ x h
       rw [ByteArray.size_extract] at this;omega
theorem kE0 {s p x:Str} (h:x ∈ kA5 s p):x.size≤s.size:=splitB_mem p _ s x h
theorem cutE_le (s p:Str):(cutE s p).size≤s.size:=cutE_size s p
theorem innerH_le (s:Str):(kB4 s).size≤s.size:=Nat.le_trans (cutE_le _ _) (kKE _ _)
theorem small_TOk {y:Str} (h:y.size≤300):TOk y:=⟨by omega,fun x hx=>by
 have h1:=kE0 hx;have h2:=innerH_le (y.extract 0 (kD0 y));rw [ByteArray.size_extract] at h2;omega⟩
theorem parF_mem (s:Str):∀ k,∀ x ∈ (parF s k).2,x.size≤s.size
 | 0,x,h=>by cases h
 | k+1,x,h=>by
   unfold parF at h
   split at h
   · rcases List.mem_append.1 h with q | q
     · exact parF_mem s k x q
     · rw [List.mem_singleton.1 q,ByteArray.size_extract];omega
   · exact parF_mem s k x h
theorem paramsM_mem {s x:Str} (h:x ∈ kC9 s):x.size≤s.size:=by
 unfold kC9 at h;rcases List.mem_append.1 h with q | q
 · exact parF_mem s _ x q
 · rw [List.mem_singleton.1 q,ByteArray.size_extract];omega
theorem small_SOk {s:Str} (h:s.size≤300):SOk s:=by
 have h1:=kKH s arrS;have h2:=kHW s arrS;have h3:=kKH (cut2 s arrS) whrS;have h4:=kHW (cut2 s arrS) whrS;have h5:(kGG s).size≤(cut1 s arrS).size:=kKE _ _;exact ⟨by omega,fun y hy=>small_TOk (by have:=paramsM_mem hy;omega),small_TOk (by omega),fun y hy=>by have:=kE0 hy;omega⟩
theorem mid_mem {l:List Str} {x:Str} (h:x ∈ midL l):x ∈ l:=List.mem_of_mem_drop (List.mem_of_mem_take h)
theorem small_IOk {s:Str} (h:s.size≤300):IOk s:=by
 refine ⟨by omega,?_,fun x hx=>?_⟩
 · have h1:((kA5 s nlS).getD 0 default).size≤s.size:=kE0 (kAJ (splitS_pos s nlS))
   have:=kKE ((kA5 s nlS).getD 0 default) capS;omega
 · have h1:=kE0 (mid_mem hx)
   have h2:=kKH x colS;have h3:=kHW x colS;exact ⟨by omega,by omega,small_SOk (by omega)⟩
theorem body_size {n:Nat} {v:Str} (h:PartOk n v):(kBC n v).size≤37:=by
 unfold kBC;rw [ByteArray.size_append]
 have h1:(numS n v).size≤7:=by
  unfold numS
  split
  · exact Nat.zero_le _
  · exact (kGY h.hi).2
 have h2:v.size≤30:=by
  cases he:v.toList.isEmpty with
  | true=>rw [kDV he];exact Nat.zero_le _
  | false=>exact kCP (h.name he).1
 omega
theorem tail_size:∀ (l:List (Int × Str)),(∀ p ∈ l,PairOk p)→(kBY l).size≤38 * l.length
 | [],_=>Nat.zero_le _
 | p :: l,h=>by
   have h1:=body_size (h p (List.mem_cons_self ..));have h2:=tail_size l (fun q hq=>h q (List.mem_cons_of_mem _ hq))
   show (sgnS p.1++(kBC p.1.natAbs p.2++kBY l)).size≤_
   rw [ByteArray.size_append,ByteArray.size_append,kGQ,List.length_cons];omega
theorem printL_500 {x:Lin} (h:kAC x=true):(kAD x).size≤500:=by
 obtain ⟨p,l,e1,e2⟩:=kHM h;have hk:=pcs_ok h;have hl:=(pcs_len h).2;rw [e1] at hk hl;rw [List.length_cons] at hl;have h1:=body_size (hk p (List.mem_cons_self ..));have h2:=tail_size l (fun q hq=>hk q (List.mem_cons_of_mem _ hq));have h3:(kC4 p.1).size≤1:=by unfold kC4;split <;> decide
 rw [e2,ByteArray.size_append,ByteArray.size_append];omega
theorem parts_500 {x:Shp} (h:kAF x=true):∀ y ∈ rowL x++x.dims.map kAD,y.size≤500:=fun y hy=>by
 rcases List.mem_append.1 hy with q | q
 · unfold rowL at q
   split at q
   · cases q
   · rw [List.mem_singleton.1 q,ByteArray.size_append]
     have:x.row.size≤30:=by
      rcases row_name h with g | g
      · rw [kDV g];exact Nat.zero_le _
      · exact kCP g
     show x.row.size+2≤_
     omega
 · obtain ⟨d,hd,rfl⟩:=List.mem_map.1 q
   exact printL_500 ((kCL h).2 d hd)
theorem textH_4000 {x:Shp} (h:kAF x=true):(kA9 x).size≤4000:=by
 have h1:=kC5 (M:=500) _ comS (parts_500 h);have h2:=rowL_len x;have h3:=(kCL h).1;rw [List.length_append,List.length_map,show comS.size=2 from rfl] at h1;have h4:((rowL x).length+x.dims.length) * (500+2)≤7 * 502:=Nat.mul_le_mul (by omega) (by omega);unfold kA9;rw [ByteArray.size_append,ByteArray.size_append]
 show 1+(kAO (rowL x++x.dims.map kAD) comS).size+1≤_
 omega
theorem textT_5000 {t:Typ} (h:kAE t=true):(kAQ t).size≤5000:=by
 obtain ⟨h1,h2⟩:=kDA h;have:=elemB_sz h1;have:=textH_4000 h2;rcases kD3 h with ⟨_,e⟩ | e
 · rw [e];omega
 · rw [e,ByteArray.size_append];omega
theorem text_TOk {t:Typ} (h:kAE t=true):TOk (kAQ t):=by
 obtain ⟨h1,h2⟩:=kDA h;refine ⟨by have:=textT_5000 h;omega,fun x hx=>?_⟩;rcases kD3 h with ⟨_,e⟩ | e
 · have h1:=kE0 hx
   have h2:=innerH_le ((kAQ t).extract 0 (kD0 (kAQ t)));rw [ByteArray.size_extract,e] at h2;have:=elemB_sz (kDA h).1;rw [e] at h1;omega
 · have hk:kD0 (kAQ t)=(kA9 t.shape).size:=by
    obtain ⟨i,f1,f2,_⟩:=kFX h2;have e3:kAQ t=((⟨#[91]⟩:Str)++i)++((⟨#[93]⟩:Str)++t.elem):=by rw [e,f1];simp only [ByteArray.append_assoc]
    have hb:∀ j,j<((⟨#[91]⟩:Str)++i).size→bt ((⟨#[91]⟩:Str)++i) j≠93:=fun j hj=>by
     rw [ByteArray.size_append,show (⟨#[91]⟩:Str).size=1 from rfl] at hj;rcases Nat.eq_zero_or_pos j with rfl | q
     · rw [kBI (by decide)];decide
     · obtain ⟨m,rfl⟩:∃ m,j=1+m:=⟨j - 1,by omega⟩
       have:=kCZ (a:=(⟨#[91]⟩:Str)) (b:=i) (k:=m) (by omega);rw [show (⟨#[91]⟩:Str).size=1 from rfl] at this;rw [this];exact (f2 m (by omega)).1
    rw [e3,firstK_at hb,f1,← ByteArray.append_assoc,ByteArray.size_append (b:=(⟨#[93]⟩:Str))];rfl
   rw [hk,e,kEU,split_parts h2] at hx
   split at hx
   · rw [List.mem_singleton.1 hx];exact Nat.zero_le _
   · have:=parts_500 h2 x hx;omega
theorem join_bound {l:List Str} {M N:Nat} (h:∀ y ∈ l,y.size≤M) (hl:l.length≤N):(kAO l comS).size≤N * (M+2):=by
 have h1:=kC5 (M:=M) l comS h;rw [show comS.size=2 from rfl] at h1;exact Nat.le_trans h1 (Nat.mul_le_mul_right _ hl)
theorem text_SOk {x:Sch} (hv:kAH x=true):SOk (kBR x)∧(kBR x).size≤150000:=by
 have h:=sch_ok hv;obtain ⟨hp12,hw60,_⟩:=kA1 hv;obtain ⟨p1,p2,p3,p4,p5,p6,p7⟩:=parts_text hv
 have hps:∀ y ∈ x.params.map kAQ,TOk y:=fun y hy=>by
  obtain ⟨t,ht,rfl⟩:=List.mem_map.1 hy;exact text_TOk (h.ps t ht)
 have hws:∀ y ∈ x.wh.map kAD,y.size≤500:=fun y hy=>by
  obtain ⟨d,hd,rfl⟩:=List.mem_map.1 hy;exact printL_500 (h.wh d hd)
 have hsz:(kBR x).size≤150000:=by
  have b1:(kAO (x.params.map kAQ) comS).size≤12 * (5000+2):=join_bound (fun y hy=>by
   obtain ⟨t,ht,rfl⟩:=List.mem_map.1 hy;exact textT_5000 (h.ps t ht)) (by rw [List.length_map];exact hp12)
  have b2:(kAO (x.wh.map kAD) comS).size≤60 * (500+2):=join_bound hws (by rw [List.length_map];exact hw60);have b3:=textT_5000 h.res
  have b4:(kFT x).size≤7+(kAO (x.wh.map kAD) comS).size:=by
   unfold kFT
   split
   · rw [ByteArray.size_append];exact Nat.le_refl _
   · exact Nat.zero_le _
  rw [kH1,ByteArray.size_append,ByteArray.size_append,ByteArray.size_append,ByteArray.size_append,show parS.size=1 from rfl,show arrS.size=5 from rfl];omega
 refine ⟨⟨by omega,fun y hy=>?_,by rw [p5];exact text_TOk h.res,fun y hy=>?_⟩,hsz⟩
 · rw [p3] at hy
   have hpc:=kGX h;cases hl:x.params.map kAQ with
   | nil =>
     rw [hl,kGE] at hy;exact small_TOk (by have:=paramsM_mem hy;have e:(⟨#[]⟩:Str).size=0:=rfl;omega)
   | cons t l =>
     rw [hl] at hy hpc hps;rw [params_back hpc] at hy;exact hps y hy
 · rw [p7] at hy
   have hl:=wh_linC h;cases hw:x.wh.map kAD with
   | nil =>
     rw [hw,kGE] at hy;have:=kE0 hy;have e:(⟨#[]⟩:Str).size=0:=rfl;omega
   | cons d l =>
     rw [hw] at hy hl hws;rw [kFZ (c:=44) (t:=[32]) rfl _ _ (fun y hy j hj=>(hl y hy).1.ne (by decide) hj)] at hy;have:=hws y hy;omega
theorem kHT {s:Str} (h:kAZ s=true):s.size≤30:=by
 unfold kAZ at h;rw [Bool.and_eq_true] at h;have:=of_decide_eq_true h.1;omega
theorem text_IOk {x:Ifc} (hv:kAL x=true) (h6:x.entries.length≤6):IOk (kC0 x):=by
 have h:=ifc_ok hv;have hm:=kHT h.mod
 have hline:∀ e ∈ x.entries,(kBN e).size≤150032:=fun e he=>by
  obtain ⟨h1,h2⟩:=h.ents e he;have:=kHT h1;have:=(text_SOk h2).2;rw [kH8 h2,ByteArray.size_append,ByteArray.size_append,show colS.size=2 from rfl];omega
 refine ⟨?_,?_,fun y hy=>?_⟩
 · have ht:∀ l:List Ent,(∀ e ∈ l,(kBN e).size≤150032)→(kGN l).size≤l.length * 150033:=fun l=>by
    induction l with
    | nil=>exact fun _=>Nat.zero_le _
    | cons e l ih =>
      intro hl;have h1:=hl e (List.mem_cons_self ..);have h2:=ih (fun q hq=>hl q (List.mem_cons_of_mem _ hq))
      show (kBN e++(nlS++kGN l)).size≤_
      rw [ByteArray.size_append,ByteArray.size_append,show nlS.size=1 from rfl,List.length_cons];omega
   have h1:=ht x.entries hline;rw [textI_form,ByteArray.size_append,ByteArray.size_append,capI_form,ByteArray.size_append,show nlS.size=1 from rfl,show capS.size=10 from rfl];omega
 · rw [split_text hv]
   show (cutP (capS++x.module_) capS).size≤_
   rw [kKF];omega
 · rw [split_text hv,mid_text] at hy
   obtain ⟨e,he,rfl⟩:=List.mem_map.1 hy;obtain ⟨h1,h2⟩:=h.ents e he;obtain ⟨c1,c2⟩:=cut_line ⟨h1,h2⟩;rw [c1,c2];have:=kHT h1;have:=hline e he;exact ⟨by omega,by omega,(text_SOk h2).1⟩
theorem kIG {s:Str} {y:Ifc} (h:kD8 s=some y) (hs:IOk s) (w:World) (E:EnvM w) :
 Calls Tryz.prog 11 #[.string s] w fun e w'=>(∃ a c,e= .returned (.tuple #[.agg #[.string y.module_,.slice a y.entries.length c],.int .i64 0])∧Sl REnt (fun k=>w.heap.size≤k) w' a y.entries.length c y.entries)∧Below w.heap.size w w':=by
 have:=kE6 s hs w E;rw [h] at this;exact this
theorem kIH {s:Str} (h:kD8 s=none) (hs:IOk s) (w:World) (E:EnvM w) :
 Calls Tryz.prog 11 #[.string s] w fun e w'=>(∃ a c,e= .returned (.tuple #[.agg #[.string kCV.module_,.slice a kCV.entries.length c],.int .i64 6])∧Sl REnt (fun k=>w.heap.size≤k) w' a kCV.entries.length c kCV.entries)∧Below w.heap.size w w':=by
 have:=kE6 s hs w E;rw [h] at this;exact this
theorem ref57_Parse_some {s:Str} {y:Ifc} (h:kD8 s=some y) (hs:s.size≤10000) (w:World) :
 Calls Tryz.prog 14 #[.string s] w fun e w'=>(∃ a c,e= .returned (.tuple #[.agg #[.string y.module_,.slice a y.entries.length c],.int .i64 0])∧Sl REnt (fun k=>w.heap.size≤k) w' a y.entries.length c y.entries)∧Below w.heap.size w w':=by
 have:=ref57_Parse s hs w;rw [h] at this;exact this
theorem ref57_Parse_none {s:Str} (h:kD8 s=none) (hs:s.size≤10000) (w:World) :
 Calls Tryz.prog 14 #[.string s] w fun e w'=>(∃ a c,e= .returned (.tuple #[.agg #[.string kCV.module_,.slice a kCV.entries.length c],.int .i64 6])∧Sl REnt (fun k=>w.heap.size≤k) w' a kCV.entries.length c kCV.entries)∧Below w.heap.size w w':=by
 have:=ref57_Parse s hs w;rw [h] at this;exact this
theorem eqIfc_self (x:Ifc):kJD x x=true:=(eqIfc_iff x x).2 rfl
theorem ours_t {x:Ifc} {a:Option Addr} {n c:Nat} {L:Nat} {w:World} (hs:Sl REnt (fun k=>k<L) w a n c x.entries) (hn:n≤1000000) :
 Calls Tryz.prog 6 #[.agg #[.string x.module_,.slice a n c]] w fun e w'=>(∃ a' c',e= .returned (.agg #[.string x.module_,.slice a' x.entries.length c'])∧Sl REnt All w' a' x.entries.length c' x.entries)∧Below w.heap.size w w' :=
 (oursIfc hs hn).mono fun e w' ⟨⟨v,he,ho⟩,hb⟩=>by
   obtain ⟨a',c',rfl,hs'⟩:=ho.sl;exact ⟨⟨a',c',he,hs'.all⟩,hb⟩
theorem theirs_t {S:Blk} {A:Ifc} {a:Option Addr} {c:Nat} {w:World} (hs:Sl REnt S w a A.entries.length c A.entries) (hn:A.entries.length≤100) :
 Calls Tryz.prog 13 #[.agg #[.string A.module_,.slice a A.entries.length c]] w fun e w'=>(∃ a' c',e= .returned (.agg #[.string A.module_,.slice a' A.entries.length c'])∧Sl REnt All w' a' A.entries.length c' A.entries)∧Below w.heap.size w w' :=
 (theirsIfc hs (by omega)).mono fun e w' ⟨⟨v,he,ho⟩,hb⟩=>by
   obtain ⟨a',c',rfl,hs'⟩:=ho.sl;exact ⟨⟨a',c',he,hs'.all⟩,hb⟩
theorem law57_Text {x:Ifc} {s:Str} {a:Option Addr} {n c:Nat} {w:World} (hs0:Sl REnt All w a n c x.entries) (hbig:∀ e ∈ x.entries,bigE e) (hmz:strB x.module_) (hwz:∀ e ∈ x.entries,∀ y ∈ e.scheme.wh,szL y) (hsb:s.size≤281474976710656) (E:EnvM w) :
 Calls Tryz.prog 3 #[.agg #[.string x.module_,.slice a n c],.string s] w fun e w'=>e= .returned (.bool true)∧Below w.heap.size w w':=by
 have hlen:=hs0.len;subst hlen;have hm:=hs0.small;have HS:=hJ (hs0.mono (S':=fun k=>k<w.heap.size) (fun k _ h=>h));have HE:=hJ (fun (W:World) (hW:Below w.heap.size w W)=>E.below hW);have HBg:=hJ hbig;have HMz:=hJ hmz;have HWz:=hJ hwz;clear hs0 hbig hmz hwz E;obtain ⟨B0,ya,hW0⟩:=box1 w 24 [.string x.module_,.slice a x.entries.length c];have xa0:=box0 ya 0 _ rfl;have xa1:=box0 ya 1 _ rfl;have bka:Bx _ _ _ _:=ya;clear ya;have HX0:=hJ bka;have HAw:=hJ (law57_awake _ (HE.out _ B0.out).env);clear bka;go_enter func3,ntmps3
 go_wp2_with fail
 refine (HAw.out).mono ?_;rintro e w1 ⟨rfl,hb1⟩;have HX1:=hJ (HX0.out.below hb1 HX0.out.lt);have HW1:Hid (Below w.heap.size w w1):=hJ (B0.out.trans (hb1.mono B0.out.size));clear xa0 xa1 hb1 HX0 HAw B0 hW0;have g0:=HX1.out.cell 0 _ rfl;have g1:=HX1.out.cell 1 _ rfl;have HF:=hJ (ref57_Few (i:=x) (HS.out.below HW1.out) HBg.out HMz.out);cases hfew:fewIfc x with
 | false =>
   rw [hfew] at HF
   go_wp2_with fail
   refine (HF.out).mono ?_;rintro e w2 ⟨rfl,hb2⟩
   go_wp2_with fail
   go_ret;exact ⟨rfl,HW1.out.trans (hb2.mono HW1.out.size)⟩
 | true =>
   rw [hfew] at HF;obtain ⟨hfe,hf6,hfm⟩:=few_ifc hfew;have HFe:Hid (∀ e ∈ x.entries,szS e.scheme∧e.scheme.params.length≤13∧(kAH e.scheme=true→e.scheme.wh.length≤8)∧e.name.size≤40):=hJ (fun e he=>few_ent (hfe e he) (HWz.out e he));have HTm:Hid (∀ e ∈ x.entries,tame e):=hJ (fun e he=>⟨(HFe.out e he).1,by have:=(HFe.out e he).2.2.2;omega⟩);have hn6:=hf6;have HE6:=hJ hf6;clear hfe hf6 hfew HBg HMz HWz
   go_wp2_with fail
   refine (HF.out).mono ?_;rintro e w2 ⟨rfl,hb2⟩;have HX:=hJ (HX1.out.below hb2 HX1.out.lt);have HW:Hid (Below w.heap.size w w2):=hJ (HW1.out.trans (hb2.mono HW1.out.size));have x0:=HX.out.cell 0 _ rfl;have x1:=HX.out.cell 1 _ rfl;clear g0 g1 hb2 HX1 HW1 HF;by_cases h300:300<s.size
   · have q:decide ((s.size:Int) > 300)=true:=decide_eq_true (by omega)
     have q':decide (300<s.size)=true:=decide_eq_true h300
     go_wp2_with fail
     go_ret;exact ⟨rfl,HW.out⟩
   · have q:decide ((s.size:Int) > 300)=false:=decide_eq_false (by omega)
     have q':decide (300<s.size)=false:=decide_eq_false h300;have h300:s.size≤300:=by omega
     have HCo:=hJ (ours_t (x:=x) (HS.out.below HW.out) (by omega))
     go_wp2_with fail
     refine HCo.out.mono ?_;rintro e w3 ⟨⟨a3,c3,rfl,hs3⟩,hb3⟩;have hA4:Below w3.heap.size w3 (w3.alloc (.cells #[.string x.module_,.slice a3 x.entries.length c3] 29)):=(Below.refl _ _).alloc (Nat.le_refl _) _;have HO:=hJ (Bx.fresh w3 29 [.string x.module_,.slice a3 x.entries.length c3]);replace HX:=hJ ((HX.out.below hb3 HX.out.lt).below hA4 (Nat.lt_of_lt_of_le HX.out.lt hb3.size));have HSo:=hJ (hs3.below hA4);replace HW:=hJ (HW.out.trans ((hb3.trans (hA4.mono hb3.size)).mono HW.out.size));have o0:=HO.out.cell 0 _ rfl;have o1:=HO.out.cell 1 _ rfl;have hz3:=hb3.size;clear hb3 hs3 x0 x1 HCo hA4
     go_upto_region 6 with fail
     generalize hgo:w3.heap.size=go at *;generalize (w3.alloc (.cells #[.string x.module_,.slice a3 x.entries.length c3] 29))=W4 at *;clear hgo hz3;have HC1:Hid (Calls Tryz.prog 7 #[.agg #[.string x.module_,.slice a3 x.entries.length c3]] W4 fun e w'=>e= .returned (.tuple #[.string (kB3 x),.int .i64 (kB6 (kAL x))])∧Below W4.heap.size W4 w'):=hJ (kDR HSo.out HTm.out (by omega) (HE.out _ HW.out).env)
     go_wp2_with fail
     refine (HC1.out).mono ?_;rintro e w5 ⟨rfl,hb⟩;replace HX:=hJ (HX.out.below hb HX.out.lt);replace HO:=hJ (HO.out.below hb HO.out.lt);replace HSo:=hJ (HSo.out.below hb);replace HW:=hJ (HW.out.trans (hb.mono HW.out.size));have x0:=HX.out.cell 0 _ rfl;have x1:=HX.out.cell 1 _ rfl;have HSi:=hJ (HS.out.below HW.out);have HC2:Hid (Calls Tryz.prog 8 #[.agg #[.string x.module_,.slice a x.entries.length c]] w5 fun e w'=>e= .returned (.tuple #[.string (kB3 x),.int .i64 (kB6 (kAL x))])∧Below w5.heap.size w5 w'):=hJ (kI4 HSi.out (fun e he=>⟨HTm.out e he,by have:=(HFe.out e he).2.1;omega⟩) (by omega));clear HC1 hb o0 o1
     go_wp2_with fail
     refine (HC2.out).mono ?_;rintro e w6 ⟨rfl,hb⟩;replace HX:=hJ (HX.out.below hb HX.out.lt);replace HO:=hJ (HO.out.below hb HO.out.lt);replace HSo:=hJ (HSo.out.below hb);replace HW:=hJ (HW.out.trans (hb.mono HW.out.size));have o0:=HO.out.cell 0 _ rfl;have o1:=HO.out.cell 1 _ rfl;have HC3:=hJ (signatureDigest HSo.out HTm.out (by omega) (HE.out _ HW.out).env);clear HC2 hb x0 x1 HSi
     go_wp2_with fail
     refine (HC3.out).mono ?_;rintro e w7 ⟨rfl,hb⟩;replace HX:=hJ (HX.out.below hb HX.out.lt);replace HO:=hJ (HO.out.below hb HO.out.lt);replace HSo:=hJ (HSo.out.below hb);replace HW:=hJ (HW.out.trans (hb.mono HW.out.size));have x0:=HX.out.cell 0 _ rfl;have x1:=HX.out.cell 1 _ rfl;have HSi:=hJ (HS.out.below HW.out);have HC4:Hid (Calls Tryz.prog 10 #[.agg #[.string x.module_,.slice a x.entries.length c]] w7 fun e w'=>e= .returned (.tuple #[.int .i64 (digI x),.int .i64 (kB6 (kAL x))])∧Below w7.heap.size w7 w'):=hJ (ref57Digest HSi.out (fun e he=>⟨HTm.out e he,by have:=(HFe.out e he).2.1;omega⟩) (by omega) trivial);clear HC3 hb o0 o1
     go_wp2_with fail
     refine (HC4.out).mono ?_;rintro e w8 ⟨rfl,hb⟩;replace HX:=hJ (HX.out.below hb HX.out.lt);replace HO:=hJ (HO.out.below hb HO.out.lt);replace HSo:=hJ (HSo.out.below hb);replace HW:=hJ (HW.out.trans (hb.mono HW.out.size));clear HC4 hb x0 x1 HSi;generalize hdv:digI x=dv at *;clear hdv;obtain ⟨P,hP⟩:∃ P,P=kB3 x:=⟨_,rfl⟩
     obtain ⟨ev,hev⟩:∃ ev,ev=kB6 (kAL x):=⟨_,rfl⟩
     rw [← hP,← hev];have HP:=hJ hP;have HEv:=hJ hev;clear hP hev
     have hIO:IOk P:=by
      rw [HP.out];unfold kB3
      split
      · rename_i hv;exact text_IOk hv HE6.out
      · exact small_IOk (Nat.zero_le _)
     have HCp:=hJ (kE6 P hIO w8 (HE.out _ HW.out));obtain ⟨y,hy⟩:∃ y,y=optI (kD8 P):=⟨_,rfl⟩
     obtain ⟨kv,hkv⟩:∃ k,k=optE (kD8 P):=⟨_,rfl⟩
     have HBk:Hid (kAL x=true→y=x∧kv=0):=hJ (fun hv=>by
      have hp:P=kC0 x:=by rw [HP.out];unfold kB3;rw [if_pos hv]
      rw [hy,hkv,hp,readI_back hv];exact ⟨rfl,rfl⟩)
     rw [← hy,← hkv] at HCp;clear hy hkv hIO
     go_wp2_with fail
     refine HCp.out.mono ?_;rintro e w9 ⟨⟨aB,cB,rfl,hsB⟩,hb⟩;replace HX:=hJ (HX.out.below hb HX.out.lt);replace HO:=hJ (HO.out.below hb HO.out.lt);replace HSo:=hJ (HSo.out.below hb);replace HW:=hJ (HW.out.trans (hb.mono HW.out.size));have hzb:=hb.size;have hA:Below w9.heap.size w9 (w9.alloc (.cells #[.string (y).module_,.slice aB (y).entries.length cB] 29)):=(Below.refl _ _).alloc (Nat.le_refl _) _;replace HX:=hJ (HX.out.below hA HX.out.lt);replace HO:=hJ (HO.out.below hA HO.out.lt);replace HW:=hJ (HW.out.trans (hA.mono HW.out.size));have HB:=hJ (Bx.fresh w9 29 [.string y.module_,.slice aB y.entries.length cB]);have HSB:=hJ ((hsB.below hA).all);replace HSo:=hJ (HSo.out.below hA);clear hsB hb hA HCp
     go_upto_region 13 with fail
     generalize hgB:w9.heap.size=gB at *;generalize (w9.alloc (.cells #[.string y.module_,.slice aB y.entries.length cB] 29))=wx at *;clear hgB hzb
     go_cut [89] (fun v W=>v= .bool false∧Hid (Below wx.heap.size wx W))
     case first =>
      cases hv:kAL x with
      | false =>
        have he1:ev=1:=by rw [HEv.out,hv];rfl
        subst he1;refine kAA (by kernel_rfl) (by kernel_rfl) ?_
        repeat (go_big_quiet_step (fail))
        refine wpQuiet_nil ?_;rintro _ ⟨t9,rfl⟩
        go_wp2_with fail
        go_meet
        exact ⟨rfl,hJ t9.b⟩
      | true =>
        have he0:ev=0:=by rw [HEv.out,hv];rfl
        obtain ⟨hyx,hk0⟩:=HBk.out hv;replace hyx:=hyx.symm;subst hyx;subst hk0;subst he0;have i0:=HX.out.cell 0 _ rfl;have i1:=HX.out.cell 1 _ rfl;have b0:=HB.out.cell 0 _ rfl;have b1:=HB.out.cell 1 _ rfl;have HSi:=hJ (HS.out.below HW.out);have HPl:Hid (∀ e ∈ x.entries,slim e):=hJ (fun e he=>by have:=(HFe.out e he).2.1;unfold slim;omega);have HTA:=hJ (fun (W:World) (hW:Below wx.heap.size wx W)=>(theirs_t (HSB.out.below hW) (by omega)).mono fun e w' ⟨h,hb⟩=>(⟨h,hW.trans (hb.mono hW.size),hb⟩:_∧Below wx.heap.size wx w'∧Below W.heap.size W w'))
        have HQA:Hid (∀ (W:World) (a1:Option Addr) (c1:Nat),Below wx.heap.size wx W→Sl REnt All W a1 (x).entries.length c1 (x).entries→Calls Tryz.prog 12 #[.agg #[.string (x).module_,.slice a1 (x).entries.length c1],.agg #[.string (x).module_,.slice a (x).entries.length c]] W fun e w'=>e= .returned (.bool true)∧Below wx.heap.size wx w'):=hJ (fun W a1 c1 hW h1=>by
         have h:=ref57_Equal (x:=x) (y:=x) h1 (HSi.out.below hW) HPl.out HPl.out;rw [eqIfc_self] at h;exact h.mono fun e w' ⟨h1,hb⟩=>⟨h1,hW.trans (hb.mono hW.size)⟩)
        clear HEv HP HBk HSi HSB HSo HO HS HX HB HTm HFe HPl hv
        go_region_held3 (fun W=>W.cell? ⟨w.heap.size,0,none⟩=some (.string x.module_)∧W.cell? ⟨w.heap.size,1,none⟩=some (.slice a x.entries.length c)∧W.cell? ⟨gB,0,none⟩=some (.string x.module_)∧W.cell? ⟨gB,1,none⟩=some (.slice aB x.entries.length cB)) (first | (with_reducible exact ⟨zi0,zi1,zb0,zb1⟩) | (with_reducible exact ⟨i0,i1,b0,b1⟩) | go_keep) (first
         | (go_at_call 13
            refine (HTA.out _ ?hw).mono ?_
            case hw=>(repeat (first | assumption | exact Below.refl _ _ | exact Hid.out (by assumption) | refine kFD ?_ _ | refine kG1 ?_))
            rintro e u1 ⟨⟨b1',d1,rfl,hu1⟩,hBz,hb1⟩;have zi0:=kAG i0 _ hBz;have zi1:=kAG i1 _ hBz;have zb0:=kAG b0 _ hBz;have zb1:=kAG b1 _ hBz
            )
         | (go_at_call 12
            refine (HQA.out _ _ _ ?hw ?h1).mono ?_
            case hw=>(repeat (first | assumption | exact Below.refl _ _ | exact Hid.out (by assumption) | refine kFD ?_ _ | refine kG1 ?_))
            case h1=>exact hu1
            rintro e u3 ⟨rfl,hBz⟩;have zi0:=kAG i0 _ hBz;have zi1:=kAG i1 _ hBz;have zb0:=kAG b0 _ hBz;have zb1:=kAG b1 _ hBz
            ))
        all_goals
         have HBB:=hJ hBz;clear zi0 zi1 zb0 zb1 i0 i1 b0 b1 hu1
         go_wp2_with fail
         go_meet
         exact ⟨rfl,HBB⟩
     case rest =>
      obtain ⟨rfl,hbx⟩:=hcut;generalize hwx:wc=wz at *;clear hwx;replace HW:=hJ (HW.out.trans (hbx.out.mono HW.out.size));clear HEv HP HBk HSB HSo HO HX HB HS hbx HTm HFe HE6
      obtain ⟨z,k,HCc,HDc,HTz,hmz,HSl,hz100,hkz⟩:∃ (z:Ifc) (k:Int),Hid (∀ W,EnvM W→Calls Tryz.prog 11 #[.string s] W fun e w'=>(∃ a c,e= .returned (.tuple #[.agg #[.string z.module_,.slice a z.entries.length c],.int .i64 k])∧Sl REnt (fun q=>W.heap.size≤q) w' a z.entries.length c z.entries)∧Below W.heap.size W w')∧Hid (∀ W,Calls Tryz.prog 14 #[.string s] W fun e w'=>(∃ a c,e= .returned (.tuple #[.agg #[.string z.module_,.slice a z.entries.length c],.int .i64 k])∧Sl REnt (fun q=>W.heap.size≤q) w' a z.entries.length c z.entries)∧Below W.heap.size W w')∧Hid (∀ e ∈ z.entries,tame e)∧z.module_.size≤100000∧Hid (∀ e ∈ z.entries,slim e)∧z.entries.length≤100∧(k=6∨(k=0∧kB3 z=s)):=by
       cases hr:kD8 s with
       | none=>exact ⟨kCV,6,hJ (fun W E=>kIH hr (small_IOk h300) W E),hJ (fun W=>ref57_Parse_none hr (by omega) W),hJ (fun e he=>by cases he),Nat.zero_le _,hJ (fun e he=>by cases he),Nat.zero_le _,.inl rfl⟩
       | some z =>
         obtain ⟨hv,ht⟩:=readI_sound hr;have hk:=ifc_ok hv;refine ⟨z,0,hJ (fun W E=>kIG hr (small_IOk h300) W E),hJ (fun W=>ref57_Parse_some hr (by omega) W),hJ (fun e he=>⟨schT_sz (hk.ents e he).2,by have:=kHT (hk.ents e he).1;omega⟩),by have:=kHT hk.mod;omega,hJ (fun e he=>by have:=(kA1 (hk.ents e he).2).1;unfold slim;omega),by have:=hk.len;omega,.inr ⟨rfl,?_⟩⟩;unfold kB3;rw [if_pos hv,ht]
      go_wp2_with fail
      refine (HCc.out _ (HE.out _ HW.out)).mono ?_;rintro e w10 ⟨⟨aC,cC,rfl,hsC⟩,hb⟩;replace HW:=hJ (HW.out.trans (hb.mono HW.out.size));have hA:Below w10.heap.size w10 (w10.alloc (.cells #[.string z.module_,.slice aC z.entries.length cC] 29)):=(Below.refl _ _).alloc (Nat.le_refl _) _;replace HW:=hJ (HW.out.trans (hA.mono HW.out.size));have HCb:=hJ (Bx.fresh w10 29 [.string z.module_,.slice aC z.entries.length cC]);have HSC:=hJ ((hsC.below hA).all);clear hsC hb hA HCc
      go_wp2_with fail
      generalize hgC:w10.heap.size=gC at *;generalize (w10.alloc (.cells #[.string z.module_,.slice aC z.entries.length cC] 29))=w11 at *;clear hgC;refine (HDc.out _).mono ?_;rintro e w12 ⟨⟨aD,cD,rfl,hsD⟩,hb⟩;have hA:Below w12.heap.size w12 (w12.alloc (.cells #[.string z.module_,.slice aD z.entries.length cD] 24)):=(Below.refl _ _).alloc (Nat.le_refl _) _;have hbA:=hb.trans (hA.mono hb.size);replace HW:=hJ (HW.out.trans (hbA.mono HW.out.size));replace HCb:=hJ (HCb.out.below hbA HCb.out.lt);replace HSC:=hJ (HSC.out.below hbA);have HDb:=hJ (Bx.fresh w12 24 [.string z.module_,.slice aD z.entries.length cD]);have HSD:=hJ ((hsD.below hA).all);have c0:=HCb.out.cell 0 _ rfl;have c1:=HCb.out.cell 1 _ rfl;clear hsD hb hA hbA HDc
      go_upto_region 17 with fail
      generalize hgD:w12.heap.size=gD at *;generalize (w12.alloc (.cells #[.string z.module_,.slice aD z.entries.length cD] 24))=w13 at *;clear hgD;have HCv:Hid (Calls Tryz.prog 7 #[.agg #[.string z.module_,.slice aC z.entries.length cC]] w13 fun e w'=>e= .returned (.tuple #[.string (kB3 z),.int .i64 (kB6 (kAL z))])∧Below w13.heap.size w13 w'):=hJ (kDR HSC.out HTz.out hmz (HE.out _ HW.out).env);generalize kB6 (kAL z)=ez at *;obtain ⟨pz,hpz⟩:∃ pz,pz=kB3 z:=⟨_,rfl⟩
      rw [← hpz] at HCv hkz;clear hpz
      go_wp2_with fail
      refine (HCv.out).mono ?_;rintro e w14 ⟨rfl,hb⟩;replace HW:=hJ (HW.out.trans (hb.mono HW.out.size));replace HCb:=hJ (HCb.out.below hb HCb.out.lt);replace HDb:=hJ (HDb.out.below hb HDb.out.lt);replace HSC:=hJ (HSC.out.below hb);replace HSD:=hJ (HSD.out.below hb);replace c0:=HCb.out.cell 0 _ rfl;replace c1:=HCb.out.cell 1 _ rfl;have d0:=HDb.out.cell 0 _ rfl;have d1:=HDb.out.cell 1 _ rfl;have HTA:=hJ (fun (W:World) (hW:Below w14.heap.size w14 W)=>(theirs_t (HSC.out.below hW) (by omega)).mono fun e w' ⟨h,hb⟩=>(⟨h,hW.trans (hb.mono hW.size),hb⟩:_∧Below w14.heap.size w14 w'∧Below W.heap.size W w'))
      have HQA:Hid (∀ (W:World) (a1:Option Addr) (c1:Nat),Below w14.heap.size w14 W→Sl REnt All W a1 (z).entries.length c1 (z).entries→Calls Tryz.prog 12 #[.agg #[.string (z).module_,.slice a1 (z).entries.length c1],.agg #[.string (z).module_,.slice aD (z).entries.length cD]] W fun e w'=>e= .returned (.bool true)∧Below w14.heap.size w14 w'):=hJ (fun W a1 c1 hW h1=>by
       have h:=ref57_Equal (x:=z) (y:=z) h1 (HSD.out.below hW) HSl.out HSl.out;rw [eqIfc_self] at h;exact h.mono fun e w' ⟨h1,hb⟩=>⟨h1,hW.trans (hb.mono hW.size)⟩)
      have hkk:(k==k)=true:=beq_self_eq_true k;clear hb HCv HSC HSD HDb HCb HTz HSl
      go_upto_region 18 with fail
      rcases hkz with rfl | ⟨rfl,rfl⟩
      · refine wp_region_held_drew (S:=(fun W=>W.cell? ⟨gC,0,none⟩=some (.string z.module_)∧W.cell? ⟨gC,1,none⟩=some (.slice aC z.entries.length cC)∧W.cell? ⟨gD,0,none⟩=some (.string z.module_)∧W.cell? ⟨gD,1,none⟩=some (.slice aD z.entries.length cD))) (by kernel_rfl) ⟨c0,c1,d0,d1⟩ (fun hHeld=>?_)
        refine wpAnyH_take (i:=0) (v:=?_) rfl (by kernel_rfl) (by kernel_rfl) (by kernel_rfl) (fun _ _ _ h=>h) (Or.inl ⟨by kernel_rfl,?_⟩) hHeld ?_
        rotate_left
        · (intro w hSw;(try dsimp only at hSw);go_simp;first | done | (with_reducible rfl))
        try simp only [Act.put,List.setIfInBounds_toArray,List.set_cons_zero,List.set_cons_succ]
        refine wpAnyH_take (i:=2) (v:=?_) rfl (by kernel_rfl) (by kernel_rfl) (by kernel_rfl) (fun _ _ _ h=>h) (Or.inl ⟨by kernel_rfl,?_⟩) hHeld ?_
        rotate_left
        · (intro w hSw;(try dsimp only at hSw);go_simp;first | done | (with_reducible rfl))
        try simp only [Act.put,List.setIfInBounds_toArray,List.set_cons_zero,List.set_cons_succ]
        refine wpAnyH_ready (rs:=[1]) (by kernel_rfl) (by simp) ?_;refine AllReadyH.cons rfl (fun K hK=>?_) AllReadyH.nil
        go_simp
        refine (HTA.out _ (by first | exact Below.refl _ _ | exact (Below.refl _ _).drew)).mono ?_;rintro e u1 ⟨⟨b1',d1',rfl,hu1⟩,hBz,hb1⟩;have zc0:=kAG c0 _ hBz;have zc1:=kAG c1 _ hBz;have zd0:=kAG d0 _ hBz;have zd1:=kAG d1 _ hBz;refine hK.out _ _ ⟨zc0,zc1,zd0,zd1⟩ (fun hHeld=>?_);clear hK K
        try simp only [Act.put,List.setIfInBounds_toArray,List.set_cons_zero,List.set_cons_succ]
        refine wpAnyH_ready (rs:=[3]) (by kernel_rfl) (by simp) ?_;refine AllReadyH.cons rfl (fun K hK=>?_) AllReadyH.nil
        go_simp
        refine (HQA.out _ _ _ hBz hu1).mono ?_;rintro e u3 ⟨rfl,hBw⟩;replace zc0:=kAG c0 _ hBw;replace zc1:=kAG c1 _ hBw;replace zd0:=kAG d0 _ hBw;replace zd1:=kAG d1 _ hBw;refine hK.out _ _ ⟨zc0,zc1,zd0,zd1⟩ (fun hHeld=>?_);clear hK K
        try simp only [Act.put,List.setIfInBounds_toArray,List.set_cons_zero,List.set_cons_succ]
        refine wpAnyH_take (i:=4) (v:=?_) rfl (by kernel_rfl) (by kernel_rfl) (by kernel_rfl) (fun _ _ _ h=>h) (Or.inl ⟨by kernel_rfl,?_⟩) hHeld ?_
        rotate_left
        · (intro w hSw;(try dsimp only at hSw);go_simp;first | done | (with_reducible rfl))
        try simp only [Act.put,List.setIfInBounds_toArray,List.set_cons_zero,List.set_cons_succ]
        refine wpAnyH_take (i:=5) (v:=?_) rfl (by kernel_rfl) (by kernel_rfl) (by kernel_rfl) (fun _ _ _ h=>h) (Or.inl ⟨by kernel_rfl,?_⟩) hHeld ?_
        rotate_left
        · (intro w hSw;(try dsimp only at hSw);go_simp;first | done | (with_reducible rfl))
        try simp only [Act.put,List.setIfInBounds_toArray,List.set_cons_zero,List.set_cons_succ]
        refine wpAnyH_take (i:=6) (v:=?_) rfl (by kernel_rfl) (by kernel_rfl) (by kernel_rfl) (fun _ _ _ h=>h) (Or.inl ⟨by kernel_rfl,?_⟩) hHeld ?_
        rotate_left
        · (intro w hSw;(try dsimp only at hSw);go_simp;first | done | (with_reducible rfl))
        try simp only [Act.put,List.setIfInBounds_toArray,List.set_cons_zero,List.set_cons_succ]
        refine wpAnyH_take (i:=7) (v:=?_) rfl (by kernel_rfl) (by kernel_rfl) (by kernel_rfl) (fun _ _ _ h=>h) (Or.inl ⟨by kernel_rfl,?_⟩) hHeld ?_
        rotate_left
        · (intro w hSw;(try dsimp only at hSw);go_simp;first | done | (with_reducible rfl))
        try simp only [Act.put,List.setIfInBounds_toArray,List.set_cons_zero,List.set_cons_succ]
        refine wpAnyH_take (i:=8) (v:=?_) rfl (by kernel_rfl) (by kernel_rfl) (by kernel_rfl) (fun _ _ _ h=>h) (Or.inl ⟨by kernel_rfl,?_⟩) hHeld ?_
        rotate_left
        · (intro w hSw;(try dsimp only at hSw);go_simp;first | done | (with_reducible rfl))
        try simp only [Act.put,List.setIfInBounds_toArray,List.set_cons_zero,List.set_cons_succ]
        refine wpAnyH_take (i:=9) (v:=?_) rfl (by kernel_rfl) (by kernel_rfl) (by kernel_rfl) (fun _ _ _ h=>h) (Or.inl ⟨by kernel_rfl,?_⟩) hHeld ?_
        rotate_left
        · (intro w hSw;(try dsimp only at hSw);go_simp;first | done | (with_reducible rfl))
        try simp only [Act.put,List.setIfInBounds_toArray,List.set_cons_zero,List.set_cons_succ]
        refine wpAnyH_take (i:=10) (v:=?_) rfl (by kernel_rfl) (by kernel_rfl) (by kernel_rfl) (fun _ _ _ h=>h) (Or.inl ⟨by kernel_rfl,?_⟩) hHeld ?_
        rotate_left
        · (intro w hSw;(try dsimp only at hSw);go_simp;first | done | (with_reducible rfl))
        try simp only [Act.put,List.setIfInBounds_toArray,List.set_cons_zero,List.set_cons_succ]
        refine wpAnyH_take (i:=11) (v:=?_) rfl (by kernel_rfl) (by kernel_rfl) (by kernel_rfl) (fun _ _ _ h=>h) (Or.inl ⟨by kernel_rfl,?_⟩) hHeld ?_
        rotate_left
        · (intro w hSw;(try dsimp only at hSw);go_simp;first | done | (with_reducible rfl))
        try simp only [Act.put,List.setIfInBounds_toArray,List.set_cons_zero,List.set_cons_succ]
        refine wpAnyH_take (i:=12) (v:=?_) rfl (by kernel_rfl) (by kernel_rfl) (by kernel_rfl) (fun _ _ _ h=>h) (Or.inl ⟨by kernel_rfl,?_⟩) hHeld ?_
        rotate_left
        · (intro w hSw;(try dsimp only at hSw);go_simp;first | done | (with_reducible rfl))
        try simp only [Act.put,List.setIfInBounds_toArray,List.set_cons_zero,List.set_cons_succ]
        refine wpAnyH_take (i:=13) (v:=undef) rfl (by kernel_rfl) (by kernel_rfl) (by kernel_rfl) (fun _ _ _ h=>h) (Or.inr ⟨by kernel_rfl,rfl⟩) hHeld ?_
        try simp only [Act.put,List.setIfInBounds_toArray,List.set_cons_zero,List.set_cons_succ]
        refine wpAnyH_take (i:=14) (v:=undef) rfl (by kernel_rfl) (by kernel_rfl) (by kernel_rfl) (fun _ _ _ h=>h) (Or.inr ⟨by kernel_rfl,rfl⟩) hHeld ?_
        try simp only [Act.put,List.setIfInBounds_toArray,List.set_cons_zero,List.set_cons_succ]
        refine wpAnyH_take (i:=15) (v:=undef) rfl (by kernel_rfl) (by kernel_rfl) (by kernel_rfl) (fun _ _ _ h=>h) (Or.inr ⟨by kernel_rfl,rfl⟩) hHeld ?_
        try simp only [Act.put,List.setIfInBounds_toArray,List.set_cons_zero,List.set_cons_succ]
        refine wpAnyH_take (i:=16) (v:=?_) rfl (by kernel_rfl) (by kernel_rfl) (by kernel_rfl) (fun _ _ _ h=>h) (Or.inl ⟨by kernel_rfl,?_⟩) hHeld ?_
        rotate_left
        · (intro w hSw;(try dsimp only at hSw);go_simp;first | done | (with_reducible rfl))
        try simp only [Act.put,List.setIfInBounds_toArray,List.set_cons_zero,List.set_cons_succ]
        refine wpAnyH_take (i:=17) (v:=?_) rfl (by kernel_rfl) (by kernel_rfl) (by kernel_rfl) (fun _ _ _ h=>h) (Or.inl ⟨by kernel_rfl,?_⟩) hHeld ?_
        rotate_left
        · (intro w hSw;(try dsimp only at hSw);go_simp;first | done | (with_reducible rfl))
        try simp only [Act.put,List.setIfInBounds_toArray,List.set_cons_zero,List.set_cons_succ]
        refine wpAnyH_take (i:=18) (v:=?_) rfl (by kernel_rfl) (by kernel_rfl) (by kernel_rfl) (fun _ _ _ h=>h) (Or.inl ⟨by kernel_rfl,?_⟩) hHeld ?_
        rotate_left
        · (intro w hSw;(try dsimp only at hSw);go_simp;first | done | (with_reducible rfl))
        try simp only [Act.put,List.setIfInBounds_toArray,List.set_cons_zero,List.set_cons_succ]
        refine wpAnyH_done (by kernel_rfl) ?_ _;have HBB:=hJ hBw;clear zc0 zc1 zd0 zd1 c0 c1 d0 d1 hu1 hBz hb1;simp only [Act.put,List.getElem_toArray,List.getElem_cons_zero,List.getElem_cons_succ,List.setIfInBounds_toArray,List.set_cons_zero,List.set_cons_succ]
        go_wp2_with fail
        go_ret;exact ⟨rfl,HW.out.trans (HBB.out.mono HW.out.size)⟩
      · first | (go_region_held3 (fun W=>W.cell? ⟨gC,0,none⟩=some (.string z.module_)∧W.cell? ⟨gC,1,none⟩=some (.slice aC z.entries.length cC)∧W.cell? ⟨gD,0,none⟩=some (.string z.module_)∧W.cell? ⟨gD,1,none⟩=some (.slice aD z.entries.length cD)) (first | (with_reducible exact ⟨zc0,zc1,zd0,zd1⟩) | (with_reducible exact ⟨c0,c1,d0,d1⟩) | go_keep) (first
         | (go_at_call 13
            refine (HTA.out _ ?hw).mono ?_
            case hw=>(repeat (first | assumption | exact Below.refl _ _ | exact Hid.out (by assumption) | refine kFD ?_ _ | refine kG1 ?_))
            rintro e u1 ⟨⟨b1',d1',rfl,hu1⟩,hBz,hb1⟩;have zc0:=kAG c0 _ hBz;have zc1:=kAG c1 _ hBz;have zd0:=kAG d0 _ hBz;have zd1:=kAG d1 _ hBz
            )
         | (go_at_call 12
            refine (HQA.out _ _ _ ?hw ?h1).mono ?_
            case hw=>(repeat (first | assumption | exact Below.refl _ _ | exact Hid.out (by assumption) | refine kFD ?_ _ | refine kG1 ?_))
            case h1=>exact hu1
            rintro e u3 ⟨rfl,hBz⟩;have zc0:=kAG c0 _ hBz;have zc1:=kAG c1 _ hBz;have zd0:=kAG d0 _ hBz;have zd1:=kAG d1 _ hBz
            ))) | fail
        all_goals
         have HBB:=hJ hBz;clear zc0 zc1 zd0 zd1 c0 c1 d0 d1 hu1
         go_wp2_with fail
         go_ret;exact ⟨rfl,HW.out.trans (HBB.out.mono HW.out.size)⟩
open Go.RowKit Go.ChangeShapes Go.WideShapes Go.Deep
section
variable {H:Type} {enc:TypeId × Value→H} {w:World} {base:Nat} {spare:Nat→Bool} {held:Bool}
theorem bulk_part {d:DataW H} {l:List (DataW H)} (h:d ∈ l):Rows.uptoBulk d≤Rows.uptoBulkAll l:=by
 induction l with
 | nil=>cases h
 | cons x r ih =>
   simp only [Rows.uptoBulkAll];cases List.mem_cons.1 h with
   | inl e=>subst e;omega
   | inr e=>have:=ih e;omega
theorem bulk_two:∀ (l:List (DataW H)),(∀ d ∈ l,2≤Rows.uptoBulk d)→l.length * 2≤Rows.uptoBulkAll l
 | [],_=>Nat.zero_le _
 | d :: l,h=>by
   have h1:=h d (List.mem_cons_self ..);have h2:=bulk_two l (fun x hx=>h x (List.mem_cons_of_mem _ hx));simp only [Rows.uptoBulkAll,List.length_cons];omega
theorem bulk_slice (elems spare:List (DataW H)):Rows.uptoBulkAll elems≤Rows.uptoBulk (.slice elems spare):=by simp only [Rows.uptoBulk];omega
theorem bulk_agg (parts:List (DataW H)):Rows.uptoBulkAll parts≤Rows.uptoBulk (.agg parts):=by simp only [Rows.uptoBulk];omega
theorem pickL {α :Type} [Inhabited α]:∀ (n:Nat) (P:Nat→ α →Prop),(∀ i,i<n→∃ y,P i y)→∃ l:List α,l.length=n∧∀ i y,l[i]? =some y→P i y
 | 0,P,_=>⟨[],rfl,fun i y h=>by simp at h⟩
 | n+1,P,h=>by
   obtain ⟨y0,h0⟩:=h 0 (by omega);obtain ⟨l,hl,hp⟩:=pickL n (fun i y=>P (i+1) y) (fun i hi=>h (i+1) (by omega));refine ⟨y0 :: l,by rw [List.length_cons,hl],fun i y hy=>?_⟩;cases i with
   | zero=>simp at hy;subst hy;exact h0
   | succ i=>exact hp i y (by simpa using hy)
theorem open_sl {α :Type} [Inhabited α] {R:Rep α} {Good: α →Prop} {t e:TypeId} {fuel:Nat} {cs:List Value} {x:DataW H × List MemPlace} {B:Nat} (ht:Tryz.prog.underlying t=some (.slice e)) (hC:Tryz.prog.cellsOf e=R.size)
 (step:∀ (n:Nat) (cs':List Value) (z:DataW H × List MemPlace),DataW.trod enc Tryz.prog w base spare held n e cs'=some z→Rows.uptoBulk z.1≤B→(∃ y,R.rd All w cs' y∧Good y)∧2≤Rows.uptoBulk z.1)
 (h:DataW.trod enc Tryz.prog w base spare held fuel t cs=some x) (hB:Rows.uptoBulk x.1≤B) :
 ∃ (a:Option Addr) (n c:Nat) (l:List α),cs=[.slice a n c]∧Sl R All w a n c l∧(∀ y ∈ l,Good y)∧l.length * 2≤B:=by
 rcases open_slice ht h with ⟨rfl,rfl⟩ | ⟨a,len,cap,m,n,D,Pl,rfl,hb,hl,hm,hmm,rfl,hi⟩
 · exact ⟨none,0,0,[],rfl,Sl.empty _ _ _,fun y hy=>absurd hy (List.not_mem_nil),Nat.zero_le _⟩
 · have hle:len≤m:=by rw [hmm];split <;> omega
   have hbk:=bulk_slice ((List.range len).map D) ((List.range (m - len)).map fun j=>D (len+j));have hD:∀ i,i<len→Rows.uptoBulk (D i)≤B:=fun i hi'=>Nat.le_trans (bulk_part (List.mem_map.2 ⟨i,List.mem_range.2 hi',rfl⟩)) (Nat.le_trans hbk hB)
   rw [hC] at hi
   have hstep:∀ i,i<len→(∃ y cs',R.rd All w cs' y∧Good y∧∀ j u,cs'[j]? =some u→w.cell? (a.add (i * R.size+j))=some u)∧2≤Rows.uptoBulk (D i):=fun i hi'=>by
    obtain ⟨cs',hcs,htr⟩:=hi i (by omega);obtain ⟨⟨y,hy,hg⟩,h2⟩:=step n cs' _ htr (hD i hi');obtain ⟨_,hlen,hat⟩:=World.cells?_some hcs;refine ⟨⟨y,cs',hy,hg,fun j u hu=>?_⟩,h2⟩
    have hj:j<R.size:=by
     rcases Nat.lt_or_ge j cs'.length with q | q
     · omega
     · rw [List.getElem?_eq_none q] at hu;cases hu
    rw [← Go.Deep.add_add,hat j hj,hu]
   obtain ⟨l,hll,hp⟩:=pickL len (fun i y=>∃ cs',R.rd All w cs' y∧Good y∧∀ j u,cs'[j]? =some u→w.cell? (a.add (i * R.size+j))=some u) (fun i hi'=>(hstep i hi').1);refine ⟨some a,len,cap,l,rfl,⟨hll,hl,hm,by intro h;(cases h),fun i y hy=>?_⟩,fun y hy=>?_,?_⟩
   · obtain ⟨cs',hr,hg,hc⟩:=hp i y hy
     have hlt:i<len:=by
      rcases Nat.lt_or_ge i l.length with q | q
      · omega
      · rw [List.getElem?_eq_none q] at hy;cases hy
     obtain ⟨y0,cs0,hr0,_,hc0⟩:=(hstep 0 (by omega)).1;have hl0:=R.len hr0;have hpos:=R.pos;have h00:=hc0 0 _ (List.getElem?_eq_getElem (show 0<cs0.length by omega));rw [Nat.zero_mul,Nat.zero_add] at h00;obtain ⟨b,off,sp⟩:=a
     have hsp:sp=none:=by
      cases sp with
      | none=>rfl
      | some k =>
        have:w.cell? (Addr.add ⟨b,off,some k⟩ 0)=none:=by
         show w.cell? ⟨b,off,some k⟩=none
         unfold World.cell?;cases w.heap[b]? with
         | none=>rfl
         | some o=>cases o <;> rfl
        rw [this] at h00;cases h00
     subst hsp;exact ⟨b,off,cs',rfl,trivial,hr,fun j u hu=>by have:=hc j u hu;rwa [add_mk] at this⟩
   · obtain ⟨i,hi',rfl⟩:=List.getElem_of_mem hy
     obtain ⟨_,_,hg,_⟩:=hp i _ (List.getElem?_eq_getElem hi');exact hg
   · have h2:=bulk_two ((List.range len).map D) (fun d hd=>by
      obtain ⟨i,hi',rfl⟩:=List.mem_map.1 hd;exact (hstep i (List.mem_range.1 hi')).2)
     rw [List.length_map,List.length_range] at h2;have h3:=Nat.le_trans hbk hB;omega
def gC (B:Nat) (y:Coef):Prop:=y.v.size≤B
def gL (B:Nat) (y:Lin):Prop:=∀ t ∈ y.terms,gC B t
def gT (B:Nat) (y:Typ):Prop:=y.elem.size≤B∧y.shape.row.size≤B∧∀ d ∈ y.shape.dims,gL B d
def gS (B:Nat) (y:Sch):Prop:=(∀ t ∈ y.params,gT B t)∧gT B y.result∧(∀ d ∈ y.wh,gL B d)∧y.params.length * 2≤B
def gE (B:Nat) (y:Ent):Prop:=y.name.size≤B∧gS B y.scheme
theorem bulk_str {s:Str}:Rows.uptoBulk (DataW.lit (H:=H) (.string s.data.toList))=s.size+1:=by
 simp [Rows.uptoBulk]
theorem open_coef {B n:Nat} {cs:List Value} {z:DataW H × List MemPlace} (h:DataW.trod enc Tryz.prog w base spare held n 46 cs=some z) (hB:Rows.uptoBulk z.1≤B):(∃ y,kCB.rd All w cs y∧gC B y)∧2≤Rows.uptoBulk z.1:=by
 obtain ⟨xs,m,rfl,rfl,hl,hx,hf⟩:=DataW.trod_struct underlying46 h;have h0:=hf 0 _ rfl;have h1:=hf 1 _ rfl
 obtain ⟨x0,x1,rfl⟩:∃ x0 x1,xs=[x0,x1]:=by
  match xs,hx with
  | [x0,x1],_=>exact ⟨x0,x1,rfl⟩
 obtain ⟨c0,c1,rfl⟩:∃ c0 c1,cs=[c0,c1]:=by
  have hl:cs.length=2:=hl.trans (by kernel_rfl)
  match cs,hl with
  | [c0,c1],_=>exact ⟨c0,c1,rfl⟩
 obtain ⟨s,e0,rfl,hs⟩:=DataW.trod_string underlying9 (show DataW.trod enc Tryz.prog w base spare held m 9 [c0]=some x0 from h0);obtain ⟨k,e1,rfl,hk⟩:=DataW.trod_int underlying3 (show DataW.trod enc Tryz.prog w base spare held m 3 [c1]=some x1 from h1);cases e0;cases e1;have hb:=bulk_agg ([(DataW.lit (.string s.data.toList):DataW H),.lit (.int .i64 k)])
 have hq:Rows.uptoBulkAll ([(DataW.lit (.string s.data.toList):DataW H),.lit (.int .i64 k)])=s.size+1+(1+0):=by
  simp only [Rows.uptoBulkAll,bulk_str];rfl
 have hB:Rows.uptoBulk (DataW.agg [(DataW.lit (.string s.data.toList):DataW H),.lit (.int .i64 k)])≤B:=hB;refine ⟨⟨⟨s,k⟩,rfl,by show s.size≤B;omega⟩,?_⟩
 show 2≤Rows.uptoBulk (DataW.agg [(DataW.lit (.string s.data.toList):DataW H),.lit (.int .i64 k)])
 omega
theorem bulk_pos (d:DataW H):1≤Rows.uptoBulk d:=by
 cases d with
 | lit l=>cases l <;> simp [Rows.uptoBulk]
 | nil=>simp [Rows.uptoBulk]
 | ptr d=>simp [Rows.uptoBulk]
 | slice elems spare=>simp [Rows.uptoBulk]
 | agg parts=>simp [Rows.uptoBulk]
 | iface t d=>simp [Rows.uptoBulk]
 | map entries=>simp [Rows.uptoBulk]
 | held h=>simp [Rows.uptoBulk]
theorem agg_two (d:DataW H) (l:List (DataW H)):2≤Rows.uptoBulk (.agg (d :: l)):=by
 have h:=bulk_pos d;simp only [Rows.uptoBulk,Rows.uptoBulkAll];omega
theorem kDH {d:DataW H} {l:List (DataW H)} {B:Nat} (h:Rows.uptoBulk (.agg l)≤B) (hd:d ∈ l):Rows.uptoBulk d≤B:=Nat.le_trans (bulk_part hd) (Nat.le_trans (bulk_agg l) h)
theorem open_str {B m:Nat} {c:Value} {x:DataW H × List MemPlace} (h:DataW.trod enc Tryz.prog w base spare held m 9 [c]=some x) (hB:Rows.uptoBulk x.1≤B):∃ s:Str,c= .string s∧s.size≤B:=by
 obtain ⟨s,e0,rfl,hs⟩:=DataW.trod_string underlying9 h;cases e0;have hB:Rows.uptoBulk (DataW.lit (H:=H) (.string s.data.toList))≤B:=hB;rw [bulk_str] at hB;exact ⟨s,rfl,by omega⟩
theorem two_of {α :Type} {l:List α} (h:l.length=2):∃ a b,l=[a,b]:=by
 match l,h with
 | [a,b],_=>exact ⟨a,b,rfl⟩
theorem three_of {α :Type} {l:List α} (h:l.length=3):∃ a b c,l=[a,b,c]:=by
 match l,h with
 | [a,b,c],_=>exact ⟨a,b,c,rfl⟩
theorem five_of {α :Type} {l:List α} (h:l.length=5):∃ a b c d e,l=[a,b,c,d,e]:=by
 match l,h with
 | [a,b,c,d,e],_=>exact ⟨a,b,c,d,e,rfl⟩
theorem six_of {α :Type} {l:List α} (h:l.length=6):∃ a b c d e f,l=[a,b,c,d,e,f]:=by
 match l,h with
 | [a,b,c,d,e,f],_=>exact ⟨a,b,c,d,e,f,rfl⟩
theorem open_lin {B n:Nat} {cs:List Value} {z:DataW H × List MemPlace} (h:DataW.trod enc Tryz.prog w base spare held n 49 cs=some z) (hB:Rows.uptoBulk z.1≤B):(∃ y,RLin.rd All w cs y∧gL B y)∧2≤Rows.uptoBulk z.1:=by
 obtain ⟨xs,m,rfl,rfl,hl,hx,hf⟩:=DataW.trod_struct underlying49 h;obtain ⟨x0,x1,rfl⟩:=two_of hx;obtain ⟨c0,c1,rfl⟩:=two_of (hl.trans (by kernel_rfl));have hB:Rows.uptoBulk (.agg [x0.1,x1.1])≤B:=hB;obtain ⟨k,e0,_,_⟩:=DataW.trod_int underlying3 (show DataW.trod enc Tryz.prog w base spare held m 3 [c0]=some x0 from hf 0 _ rfl);cases e0;obtain ⟨a,n,c,l,e1,hs,hg,_⟩:=open_sl (R:=kCB) (Good:=gC B) underlying47 (by kernel_rfl) (fun n cs' z h hb=>open_coef h hb) (show DataW.trod enc Tryz.prog w base spare held m 47 [c1]=some x1 from hf 1 _ rfl) (kDH hB (by simp));cases e1;obtain rfl:=hs.len;exact ⟨⟨⟨k,l⟩,⟨_,rfl,a,c,rfl,hs⟩,hg⟩,agg_two _ _⟩
theorem open_shp {B n:Nat} {cs:List Value} {z:DataW H × List MemPlace} (h:DataW.trod enc Tryz.prog w base spare held n 52 cs=some z) (hB:Rows.uptoBulk z.1≤B):∃ y:Shp,RShp.rd All w cs y∧y.row.size≤B∧∀ d ∈ y.dims,gL B d:=by
 obtain ⟨xs,m,rfl,rfl,hl,hx,hf⟩:=DataW.trod_struct underlying52 h;obtain ⟨x0,x1,rfl⟩:=two_of hx;obtain ⟨c0,c1,rfl⟩:=two_of (hl.trans (by kernel_rfl));have hB:Rows.uptoBulk (.agg [x0.1,x1.1])≤B:=hB;obtain ⟨s,rfl,hs0⟩:=open_str (show DataW.trod enc Tryz.prog w base spare held m 9 [c0]=some x0 from hf 0 _ rfl) (kDH hB (by simp));obtain ⟨a,n,c,l,e1,hs,hg,_⟩:=open_sl (R:=RLin) (Good:=gL B) underlying50 (by kernel_rfl) (fun n cs' z h hb=>open_lin h hb) (show DataW.trod enc Tryz.prog w base spare held m 50 [c1]=some x1 from hf 1 _ rfl) (kDH hB (by simp));cases e1;obtain rfl:=hs.len;exact ⟨⟨s,l⟩,⟨_,rfl,a,c,rfl,hs⟩,hs0,hg⟩
theorem open_typ {B n:Nat} {cs:List Value} {z:DataW H × List MemPlace} (h:DataW.trod enc Tryz.prog w base spare held n 54 cs=some z) (hB:Rows.uptoBulk z.1≤B):(∃ y,RTyp.rd All w cs y∧gT B y)∧2≤Rows.uptoBulk z.1:=by
 obtain ⟨xs,m,rfl,rfl,hl,hx,hf⟩:=DataW.trod_struct underlying54 h;obtain ⟨x0,x1,rfl⟩:=two_of hx;obtain ⟨c0,c1,c2,rfl⟩:=three_of (hl.trans (by kernel_rfl));have hB:Rows.uptoBulk (.agg [x0.1,x1.1])≤B:=hB;obtain ⟨s,rfl,hs0⟩:=open_str (show DataW.trod enc Tryz.prog w base spare held m 9 [c0]=some x0 from hf 0 _ rfl) (kDH hB (by simp));have h1:=hf 1 _ rfl;obtain ⟨y,⟨t,e,ht⟩,hy1,hy2⟩:=open_shp (show DataW.trod enc Tryz.prog w base spare held m 52 [c1,c2]=some x1 from h1) (kDH hB (by simp));cases e;exact ⟨⟨⟨s,y⟩,⟨_,rfl,ht⟩,hs0,hy1,hy2⟩,agg_two _ _⟩
theorem open_sch {B n:Nat} {cs:List Value} {z:DataW H × List MemPlace} (h:DataW.trod enc Tryz.prog w base spare held n 57 cs=some z) (hB:Rows.uptoBulk z.1≤B):∃ y,RSch.rd All w cs y∧gS B y:=by
 obtain ⟨xs,m,rfl,rfl,hl,hx,hf⟩:=DataW.trod_struct underlying57 h;obtain ⟨x0,x1,x2,rfl⟩:=three_of hx;obtain ⟨c0,c1,c2,c3,c4,rfl⟩:=five_of (hl.trans (by kernel_rfl));have hB:Rows.uptoBulk (.agg [x0.1,x1.1,x2.1])≤B:=hB;obtain ⟨a,n,c,l,e1,hs,hg,hln⟩:=open_sl (R:=RTyp) (Good:=gT B) underlying55 (by kernel_rfl) (fun n cs' z h hb=>open_typ h hb) (show DataW.trod enc Tryz.prog w base spare held m 55 [c0]=some x0 from hf 0 _ rfl) (kDH hB (by simp));cases e1;obtain rfl:=hs.len;have h1:=hf 1 _ rfl;obtain ⟨⟨y,⟨t,e,ht⟩,hy⟩,_⟩:=open_typ (show DataW.trod enc Tryz.prog w base spare held m 54 [c1,c2,c3]=some x1 from h1) (kDH hB (by simp));cases e;obtain ⟨a2,n2,c5,l2,e2,hs2,hg2,_⟩:=open_sl (R:=RLin) (Good:=gL B) underlying50 (by kernel_rfl) (fun n cs' z h hb=>open_lin h hb) (show DataW.trod enc Tryz.prog w base spare held m 50 [c4]=some x2 from hf 2 _ rfl) (kDH hB (by simp));cases e2;obtain rfl:=hs2.len;exact ⟨⟨l,y,l2⟩,⟨_,_,_,rfl,⟨a,c,rfl,hs⟩,ht,⟨a2,c5,rfl,hs2⟩⟩,hg,hy,hg2,hln⟩
theorem open_ent {B n:Nat} {cs:List Value} {z:DataW H × List MemPlace} (h:DataW.trod enc Tryz.prog w base spare held n 64 cs=some z) (hB:Rows.uptoBulk z.1≤B):(∃ y,REnt.rd All w cs y∧gE B y)∧2≤Rows.uptoBulk z.1:=by
 obtain ⟨xs,m,rfl,rfl,hl,hx,hf⟩:=DataW.trod_struct underlying64 h;obtain ⟨x0,x1,rfl⟩:=two_of hx;obtain ⟨c0,c1,c2,c3,c4,c5,rfl⟩:=six_of (hl.trans (by kernel_rfl));have hB:Rows.uptoBulk (.agg [x0.1,x1.1])≤B:=hB;obtain ⟨s,rfl,hs0⟩:=open_str (show DataW.trod enc Tryz.prog w base spare held m 9 [c0]=some x0 from hf 0 _ rfl) (kDH hB (by simp));have h1:=hf 1 _ rfl;obtain ⟨y,hy,hg⟩:=open_sch (show DataW.trod enc Tryz.prog w base spare held m 57 [c1,c2,c3,c4,c5]=some x1 from h1) (kDH hB (by simp));exact ⟨⟨⟨s,y⟩,⟨_,rfl,hy⟩,hs0,hg⟩,agg_two _ _⟩
theorem open_ifc {B n:Nat} {cs:List Value} {z:DataW H × List MemPlace} (h:DataW.trod enc Tryz.prog w base spare held n 24 cs=some z) (hB:Rows.uptoBulk z.1≤B):∃ (i:Ifc) (a:Option Addr) (k c:Nat),cs=[.string i.module_,.slice a k c]∧Sl REnt All w a k c i.entries∧i.module_.size≤B∧∀ e ∈ i.entries,gE B e:=by
 obtain ⟨xs,m,rfl,rfl,hl,hx,hf⟩:=DataW.trod_struct underlying24 h;obtain ⟨x0,x1,rfl⟩:=two_of hx;obtain ⟨c0,c1,rfl⟩:=two_of (hl.trans (by kernel_rfl));have hB:Rows.uptoBulk (.agg [x0.1,x1.1])≤B:=hB;obtain ⟨s,rfl,hs0⟩:=open_str (show DataW.trod enc Tryz.prog w base spare held m 9 [c0]=some x0 from hf 0 _ rfl) (kDH hB (by simp));obtain ⟨a,n,c,l,e1,hs,hg,_⟩:=open_sl (R:=REnt) (Good:=gE B) underlying22 (by kernel_rfl) (fun n cs' z h hb=>open_ent h hb) (show DataW.trod enc Tryz.prog w base spare held m 22 [c1]=some x1 from hf 1 _ rfl) (kDH hB (by simp));cases e1;exact ⟨⟨s,l⟩,a,n,c,rfl,hs,hs0,hg⟩
theorem gL_big {B:Nat} (hB:B≤2000000) {y:Lin} (h:gL B y):bigL y∧szL y:=⟨fun t ht=>Nat.le_trans (h t ht) (by omega),fun t ht=>Nat.le_trans (h t ht) hB⟩
theorem gE_big {B:Nat} (hB:B≤2000000) {e:Ent} (h:gE B e):bigE e∧∀ y ∈ e.scheme.wh,szL y:=by
 obtain ⟨h1,h2,h3,h4,h5⟩:=h;have hT:∀ t,gT B t→bigT t:=fun t q=>⟨fun d hd=>(gL_big hB (q.2.2 d hd)).1,Nat.le_trans q.2.1 (by omega),Nat.le_trans q.1 (by omega)⟩
 refine ⟨⟨⟨fun t ht=>?_,fun y hy=>(gL_big hB (h4 y hy)).1,by omega⟩,Nat.le_trans h1 (by omega)⟩,fun y hy=>(gL_big hB (h4 y hy)).2⟩;unfold allT at ht;rcases List.mem_append.1 ht with q | q
 · exact hT t (h2 t q)
 · rw [List.mem_singleton] at q;subst q;exact hT _ h3
end
end Go.Proofs.YtdjggkiagmlfpaaGreatDoor
namespace Go.Proofs.YtdjggkiagmlfpaaGreatDoor.signatureText
open Go.Proofs.Tryz
open Go.ChangeShapes Go.WideShapes Go.ChangeAt Go.RowKit
theorem own:ownKnob Tryz.prog.godebug=none:=by kernel_rfl
theorem laidOut:laidOutB Tryz.prog=true:=by kernel_rfl
theorem laid_one {W:World} {l:List (String × DataW Unit)} (name:String) {x:String × DataW Unit} (h:laidMetH Tryz.prog l W) (hf:l.filter (fun y=>y.1==name)=[x]) (hx:[x].filter (fun y=>y.2.handleName?.isNone)=[x]):laidMet Tryz.prog [x] W:=by
 have h1:=h.filter (fun y=>y.1==name);rw [hf] at h1;have h2:=(laidMetH_iff.1 h1).1
 rwa [hx] at h2
theorem var_iface {W:World} {name tn:String} {d:DataW Unit} {g:Nat} {t:TypeId} {ms:Array (String × TypeId)} (hg:Tryz.prog.globalNamed name=some g) (hty:(Tryz.prog.globals[g]?).map (·.type)=some t) (ht:Tryz.prog.underlying t=some (.interface ms)) (h:laidMet Tryz.prog [(name,.iface tn d)] W):∃ tp p,World.var? Tryz.prog W name=some #[.iface tp p]:=by
 obtain ⟨ps,⟨g',t',cs,fuel,p,q,hg',ht',hvar,hd,_,_⟩,_⟩:=h;obtain rfl:=Option.some.inj (hg.symm.trans hg');obtain rfl:=Option.some.inj (hty.symm.trans ht')
 have key:∃ u v,cs.toList=[.iface u v]:=by
  cases fuel with
  | zero=>simp [DataW.trod] at hd
  | succ n =>
    unfold DataW.trod at hd;rw [ht] at hd
    split at hd <;> simp_all
 obtain ⟨u,v,hc⟩:=key;exact ⟨u,v,by rw [hvar,Array.eq_one_of_toList hc]⟩
theorem gTab:Tryz.prog.globalNamed "internal/strconv.uint64pow10" =some 3:=by kernel_rfl
theorem gTabType:(Tryz.prog.globals[3]?).map (·.type)=some 261:=by kernel_rfl
theorem cellsTab:Tryz.prog.cellsOf 261=20:=by kernel_rfl
theorem cellsU64:Tryz.prog.cellsOf 221=1:=by kernel_rfl
theorem env_of {W:World} (hL:laidMetH Tryz.prog Rows.signatureTextUptoRow.laid W) (hsh:W.ShapedOpen Tryz.prog):Env W where
 sx:=var_iface (g:=4) (tn:= "*errors.errorString") (by kernel_rfl) (by kernel_rfl) underlying181 (laid_one "strconv.ErrSyntax" hL (x:=("strconv.ErrSyntax",Rows.laid_strconv_ErrSyntax)) (by kernel_rfl) (by kernel_rfl))
 rg:=var_iface (g:=5) (tn:= "*errors.errorString") (by kernel_rfl) (by kernel_rfl) underlying181 (laid_one "strconv.ErrRange" hL (x:=("strconv.ErrRange",Rows.laid_strconv_ErrRange)) (by kernel_rfl) (by kernel_rfl))
 ten:=Lib.tabIs_of_head (rest:=[]) gTab gTabType underlying261 underlying221 cellsU64 cellsTab (laid_one "internal/strconv.uint64pow10" hL (x:=("internal/strconv.uint64pow10",Lib.tabData .u64 Lib.pow10Tab)) (by kernel_rfl) (by kernel_rfl))
 big:=by
  have h7:(((begin Tryz.prog (fun _ _=>0) default).world.heap[7]?).bind Obj.row?).isSome=true:=by kernel_rfl
  obtain ⟨⟨z,t⟩,e⟩:=Option.isSome_iff_exists.1 h7;obtain ⟨cs,hc,_⟩:=hsh.1 7 z t (of_decide_eq_true (by kernel_rfl)) e;rcases Nat.lt_or_ge 7 W.heap.size with q | q
  · omega
  · rw [Array.getElem?_eq_none q] at hc;cases hc
theorem envM_of {W:World} (hL:laidMetH Tryz.prog Rows.signatureTextUptoRow.laid W) (hsh:W.ShapedOpen Tryz.prog):EnvM W:=⟨env_of hL hsh,Tryz.laysM146.s1_3 W hsh⟩
theorem contract (H:Type) (enc:TypeId × Value→H) (W:World) (base:Nat) (args:Array Value) (ds gs:List (DataW H)) (before:List MemPlace)
 (hval0:∀ (j:Nat) t v,Tryz.f3.params[j]? =some t→args[j]? =some v→Value.okWide Tryz.prog W .any base t v)
 (hW:DataW.Whole enc Tryz.prog Tryz.f3.params.toList Rows.signatureTextSpec.vars false W args.toList ds gs before) (hk:Rows.uptoSmall H (ds++gs)=true) (hL:laidMetH Tryz.prog Rows.signatureTextUptoRow.laid W) (hsh:W.ShapedOpen Tryz.prog) :
 Calls Tryz.prog 3 args W fun e W'=>∃ v,e= .returned v∧Rows.signatureTextSpec.post enc Tryz.prog Tryz.f3 false true false false W args v W':=by
 have hval:∀ (j:Nat) t v,Tryz.f3.params[j]? =some t→args[j]? =some v→Value.okWide Tryz.prog W .any base t v:=hval0;have hW':=hW;obtain ⟨p,q,hA0,hV,rfl,hfz,hnd⟩:=hW;have hA:DataW.TrodAll enc Tryz.prog W 0 (fun _=>true) true Tryz.f3.params.toList args.toList ds p:=hA0;rw [Tryz.params3] at hA hval;obtain ⟨v0,vs0,d0,ds0,p0,q0,hargs,rfl,rfl,h0,r0⟩:=trodAll_cons hA;obtain ⟨v1,vs1,d1,ds1,p1,q1,hargs1,rfl,rfl,h1,r1⟩:=trodAll_cons r0;obtain ⟨rfl,rfl,rfl⟩:=trodAll_nil r1;subst hargs1;obtain rfl:args= #[v0,v1]:=by cases args;simp_all
 obtain ⟨rfl,rfl⟩:=trodVars_none hV;obtain ⟨cs,rfl,hcs⟩:=okWide_struct underlying24 (hval 0 _ v0 rfl rfl);obtain ⟨s,rfl⟩:=okWide_string underlying9 (hval 1 _ v1 rfl rfl);have k1:=h1;have lt1:∀ x ∈ p1,x.block<W.heap.size:=by obtain ⟨m,hm⟩:=k1;exact DataW.trod_lt m _ _ _ hm
 have k0:=h0;have lt0:∀ x ∈ p0,x.block<W.heap.size:=by obtain ⟨m,hm⟩:=k0;exact DataW.trod_lt m _ _ _ hm
 have hb2:Rows.uptoBulk d0≤1048576∧Rows.uptoBulk d1≤1048576:=by
  have h:=of_decide_eq_true hk;simp only [List.append_nil,Rows.uptoBulkAll] at h;omega
 have hb:=hb2.1;obtain ⟨fuel1,hf1⟩:=h1;obtain ⟨s3,hc3,hd3,hs3⟩:=DataW.trod_string underlying9 hf1;replace hc3:[Value.string s]=[.string s3]:=hc3;cases hc3
 have hs4:s.size≤1048576:=by
  have h:=hb2.2;obtain rfl:d1= .lit (.string s.data.toList):=congrArg Prod.fst hd3;rw [bulk_str] at h;omega
 obtain ⟨fuel,hf⟩:=h0;obtain ⟨i,a,k,c,hc,hs,hm,hg⟩:=open_ifc hf hb;have hc:cs.toList=[.string i.module_,.slice a k c]:=hc;obtain rfl:cs= #[.string i.module_,.slice a k c]:=by cases cs;simp_all
 clear hA0 hval0;refine (law57_Text hs (fun e he=>(gE_big (by decide) (hg e he)).1) (Nat.le_trans hm (by decide)) (fun e he=>(gE_big (by decide) (hg e he)).2) (by omega) (envM_of hL hsh)).mono fun e W' ⟨he,bel⟩=>?_
 subst he;exact ⟨_,rfl,_,_,_,[],_,[],hW',trodAll_mk1 (shut_bool underlying4 _),(trodAll_cons_mk (Below.trod laidOut (by kernel_rfl) (of_decide_eq_true (by kernel_rfl)) k0 bel lt0) (trodAll_cons_mk (Below.trod laidOut (by kernel_rfl) (of_decide_eq_true (by kernel_rfl)) k1 bel lt1) trodAll_mk0)),rfl,bel.frame _,fun h=>by cases h⟩
abbrev textR:ByteArray:= { data:=#[118,97,108,117,101,32,111,117,116,32,111,102,32,114,97,110,103,101] }
abbrev kBR:ByteArray:= { data:=#[105,110,118,97,108,105,100,32,115,121,110,116,97,120] }
def leaf:DataW Unit→Value
 | .lit (.int k n)=>.int k n
 | _=>.nilIface
def flat1:DataW Unit→List Value
 | .agg ds=>ds.map leaf
 | d=>[leaf d]
def flat2:DataW Unit→List Value
 | .agg ds=>ds.flatMap flat1
 | d=>[leaf d]
def layAt (g:Nat) (row:List Value) (h:Array Obj):Array Obj:=h.modify g fun
 | .cells _ t frozen=>.cells row.toArray t frozen
 | o=>o
noncomputable def low:Nat:=(World.holding Tryz.prog default ⟨#[],#[],[]⟩).heap.size
noncomputable def kJ5 (os:Os):World :=
 let w0:=World.holding Tryz.prog os ⟨#[.cells #[.string textR] 289,.cells #[.string kBR] 289],#[],[]⟩
 { w0 with heap:=layAt 6 (flat2 Rows.laid_math_bits_deBruijn32tab) (layAt 7 (flat2 Rows.laid_math_bits_deBruijn64tab) (layAt 3 (flat2 Rows.laid_internal_strconv_uint64pow10) (layAt 2 (flat2 Rows.laid_unicode_utf8_acceptRanges) (layAt 1 (flat2 Rows.laid_unicode_utf8_first)
   (layAt 5 [.iface 287 (.pointer (some ⟨low,0,none⟩))] (layAt 4 [.iface 287 (.pointer (some ⟨low+1,0,none⟩))] w0.heap)))))) }
abbrev arg0:Value:=.agg #[.string ⟨#[]⟩,.slice none 0 0]
abbrev arg1:Value:=.string ⟨#[]⟩
theorem laid_met (os:Os):laidMet Tryz.prog Rows.signatureTextUptoRow.laid ((kJ5 os).forCall (fun _ _=>0) ⟨#[],#[arg0,arg1],[]⟩).memory :=
 laidMet_of_run' 8 (by kernel_rfl) (by kernel_rfl)
theorem reads (os:Os) {H:Type} (enc:TypeId × Value→H):∃ places,DataW.whole enc Tryz.prog ((kJ5 os).forCall (fun _ _=>0) ⟨#[],#[arg0,arg1],[]⟩).memory Tryz.f3.params.toList Rows.signatureTextSpec.vars false #[arg0,arg1].toList 8=some ([.agg [.lit (.string []),.nil],.lit (.string [])],[],places) :=
 ⟨[],by kernel_rfl⟩
end Go.Proofs.YtdjggkiagmlfpaaGreatDoor.signatureText
namespace Go.Proofs.YtdjggkiagmlfpaaGreatDoor.signatureText
open Go.Proofs.Tryz
open Go.ChangeShapes Go.WideShapes Go.ChangeAt Go.RowKit
theorem laid_metH (os:Os):laidMetH Tryz.prog Rows.signatureTextUptoRow.laid ((kJ5 os).forCall (fun _ _=>0) ⟨#[],#[arg0,arg1],[]⟩).memory :=
 laidMetH_iff.2 ⟨by
  rw [show (Rows.signatureTextUptoRow.laid.filter fun x=>x.2.handleName?.isNone)=Rows.signatureTextUptoRow.laid from by kernel_rfl]
  exact laid_met os,by
  rw [show (Rows.signatureTextUptoRow.laid.filter fun x=>x.2.handleName?.isSome)=[] from by kernel_rfl];exact fun x hx=>absurd hx (List.not_mem_nil)⟩
theorem liftedUpto (os:Os) (started:os.Started) (H:Type) (enc:TypeId × Value→H) (F:Stop.Interp) :
 ReturnsInHanded {} Tryz.checked os 3 .any ((Rows.OpenSpec.upto Rows.signatureTextSpec).preRow enc Tryz.prog Tryz.f3 Rows.signatureTextUptoRow.domain false Rows.signatureTextUptoRow.laid) (((Rows.OpenSpec.upto Rows.signatureTextSpec).at F).post enc Tryz.prog Tryz.f3 false true false false):=by
 obtain ⟨places,hx⟩:=reads os enc
 refine returnsInHanded_of_row (C:=Tryz.checked) (s:=Rows.OpenSpec.upto Rows.signatureTextSpec) own started (by kernel_rfl) func3
  (witness_row_at (enc:=enc) (C:=Tryz.checked) false (kJ5 os) #[arg0,arg1] rfl (by kernel_rfl) (by kernel_rfl) (by kernel_rfl)
    (OpenSpec.preRow_of_cond 8 hx (by kernel_rfl) (fun k hk=>by cases hk;kernel_rfl) (by kernel_rfl) (laid_metH os))) ?_
 intro W base args ds gs before hval hW _ hcond _ hL hsh _;exact contract H enc W base args ds gs before hval hW (hcond _ rfl) hL hsh
theorem saidUpto:Rows.SignatureTextUptoSaid :=
 OpenClaim.holds_of_cond 3 Tryz.f3 rfl rfl rfl rfl rfl rfl rfl ⟨rfl,rfl,rfl,rfl,rfl⟩ rfl rfl rfl rfl rfl (by kernel_rfl) func3 (by kernel_rfl)
  (of_decide_eq_true (by kernel_rfl)) (by unfold Func.isWrapper;first | (rw [if_pos (by decide +kernel)];kernel_rfl) | (rw [if_neg (by decide +kernel)];exact ⟨rfl,rfl⟩))
  (fun os started H enc _ F=>by rw [OpenClaim.pre_eq_preRow];exact liftedUpto os started H enc F)
theorem plain (f:FuncId) (fn:Func) (hf:Tryz.pinned.checked.prog.funcNamed "framewise/framewiselaw57.SignatureText" =some f) (hfn:Tryz.pinned.checked.prog.funcs[f]? =some fn) :
 true=Tryz.pinned.checked.prog.looks []∧∀ (j:Nat) t,fn.params[j]? =some t→Tryz.pinned.checked.prog.wantsStandIn t=false:=by
 obtain rfl:f=3:=Option.some.inj ((show Tryz.prog.funcNamed "framewise/framewiselaw57.SignatureText" =some 3 by kernel_rfl).symm.trans hf) |>.symm
 obtain rfl:fn=Tryz.f3:=(Option.some.inj (func3.symm.trans hfn)).symm;refine ⟨by kernel_rfl,fun j t ht=>?_⟩;rw [Tryz.params3] at ht;have hm:t=24∨t=9:=by simpa using Array.mem_of_getElem? ht
 rcases hm with rfl | rfl
 · exact (show Tryz.prog.wantsStandIn 24=false by kernel_rfl)
 · exact (show Tryz.prog.wantsStandIn 9=false by kernel_rfl)
theorem cardUpto:Rows.SignatureTextUptoCardSaid :=
 Claim7.holds_tied_plain_at .later [] _ _ _ _ saidUpto (fun _ h=>by cases h) (by kernel_rfl) (fun _ h=>by cases h) signatureTextUpto_row_tie rfl ⟨rfl,rfl⟩ (by kernel_rfl) rfl plain (by kernel_rfl)
end Go.Proofs.YtdjggkiagmlfpaaGreatDoor.signatureText
