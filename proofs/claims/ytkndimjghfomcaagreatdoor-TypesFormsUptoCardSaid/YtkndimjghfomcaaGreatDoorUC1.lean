/- The claim's texts, part UC1: contracts of the functions that the statement reaches, and what they say of the data. -/
import Derived.Test.YtkndimjghfomcaaGreatDoorU6
set_option maxRecDepth 100000
set_option maxHeartbeats 8000000
set_option linter.all false
namespace Go.Proofs.YtkndimjghfomcaaGreatDoor
open Go.Proofs.Tryz
open Go.RowKit
theorem wp_call {P:Program} {o:Oper} {a:Act} {w:World} {K:Act→World→Prop} {Q:Exit→Act→World→Prop} {f:FuncId} {us:Array Value} {R:Value→World→Prop}
 (he:(execOp a.eval o).run P w= .ok (.enter f us) w) (hc:Calls P f us w fun e w'=>∃ v,e= .returned v∧R v w') (hk:∀ v w',R v w'→K (a.put o.dst v) w'):Oper.wp P o a w K Q:=by
 unfold Oper.wp;rw [he,Oper.upon_enter];refine hc.mono ?_;rintro e w' ⟨v,rfl,hr⟩;exact hk v w' hr
def Gives (P:Program) (f:FuncId) (us:Array Value) (R:Value→World→Prop) (W:World):Prop:=Calls P f us W fun e W'=>∃ v,e= .returned v∧R v W'∧Below W.heap.size W W'
theorem kCV {P:Program} {f:FuncId} {us:Array Value} {u:Value} {W:World} (h:Calls P f us W fun e W'=>e= .returned u∧Below W.heap.size W W'):Gives P f us (fun v _=>v=u) W :=
 h.mono fun e W' ⟨he,hb⟩=>⟨u,he,rfl,hb⟩
section
variable {P:Program} {md:Region.Mode} {ops:Array Oper} {Q:Exit→Act→World→Prop} {w0:World} {fuel:Nat} {listed:Array Bool} {a:Act} {w:World}
theorem below_on {w0 W W':World} (h:Below w0.heap.size w0 W) (hb:Below W.heap.size W W'):Below w0.heap.size w0 W':=h.trans (hb.mono h.size)
theorem kBH (i:Nat) {oi:Oper} {f:FuncId} {us:Array Value} {R:Value→World→Prop} (hi:ops[i]? =some oi) (hr:Region.ready md ops listed=[i])
 (ni:Region.wanted oi (yielded ops a.tmps)=true) (ei:∀ W,(execOp a.eval oi).run P W= .ok (.enter f us) W) (ci:Gives P f us R w) (hS:Below w0.heap.size w0 w)
 (h:∀ v W,R v W→Below w.heap.size w W→Below w0.heap.size w0 W→wpAnyH P md ops Q (fun W=>Below w0.heap.size w0 W) fuel (listed.setIfInBounds i true) (a.put oi.dst v) W) :
 wpAnyH P md ops Q (fun W=>Below w0.heap.size w0 W) (fuel+1) listed a w:=by
 refine wpAnyH_ready hr (by simp) (AllReadyH.cons hi (fun K hK=>?_) AllReadyH.nil);rw [if_pos ni];refine wp_call (ei w) ci fun v W ⟨hv,hb⟩=>?_
 exact hK.out _ _ (below_on hS hb) fun _=>h v W hv hb (below_on hS hb)
end
def eqVar (x y:Bnd):Bool:=x.kind==y.kind && (x.v.toList==y.v.toList)
theorem eqVars_self:∀ l:List Bnd,kA0 eqVar l l=true:=fun l=>eq_done _ rfl fun j _=>by unfold eqVar;simp
theorem ref11_SameVars {S T:Blk} {x y:List Bnd} {a a2:Option Addr} {n n2 c c2:Nat} {w:World} (hs:Sl RBnd S w a n c x) (hs2:Sl RBnd T w a2 n2 c2 y) :
 Calls Tryz.prog 29 #[.slice a n c,.slice a2 n2 c2] w fun e w'=>e= .returned (.bool (kA0 eqVar x y))∧Below w.heap.size w w':=by
 have hn:=hs.small;have hn2:=hs2.small;have HL:=hJ hs.len;have HL2:=hJ hs2.len;have H:=hJ hs;have H2:=hJ hs2;clear hs hs2;by_cases hnn:n=n2
 case neg =>
  have HF:Hid (kA0 eqVar x y=false):=hJ (eq_len _ (by rw [HL.out,HL2.out];exact hnn));have q:((n:Int) != (n2:Int))=true:=bne_iff_ne.2 (by omega);go_enter func29,ntmps29
  go_wp2_with fail
  go_ret;exact ⟨by rw [HF.out];rfl,Below.refl _ _⟩
 subst hnn;have q:((n:Int) != (n:Int))=false:=by simp
 go_enter func29,ntmps29
 go_wp2_with fail
 go_loopw [5] (fun i wr=>∃ k:Nat,k≤n∧i= .int .i64 k∧Hid (∀ j,j<k→eqVar (x.getD j default) (y.getD j default)=true)∧Below w.heap.size w wr) (fun i _=>n - (intOf i).toNat)
 case atStart=>exact ⟨0,Nat.zero_le _,rfl,fun j hj=>absurd hj (by omega),Below.refl _ _⟩
 case round =>
  obtain ⟨k,hk,rfl,HT,hB⟩:=hrel;by_cases hlt:k<n
  · obtain ⟨b,off,rfl,hbW,_⟩:=H.out.form k hlt
    obtain ⟨b2,off2,rfl,hbW2,_⟩:=H2.out.form k hlt;have HK:Hid (k<x.length):=hJ (by rw [HL.out];exact hlt);have HK2:Hid (k<y.length):=hJ (by rw [HL2.out];exact hlt);obtain ⟨_,_,_,_,c0,c1,_⟩:=(H.out.below hB).bnd k hlt;obtain ⟨_,_,_,_,d0,d1,_⟩:=(H2.out.below hB).bnd k hlt;have c0:=Later.cell c0;have c1:=Later.cell c1;have d0:=Later.cell d0;have d1:=Later.cell d1;have HH:Hid (eqVar (x.getD k default) (y.getD k default)=false→kA0 eqVar x y=false):=hJ (fun q=>eq_stop _ HK.out HK2.out q);have HG:Hid (eqVar (x.getD k default) (y.getD k default)=true→∀ j,j<k+1→eqVar (x.getD j default) (y.getD j default)=true):=hJ (fun q=>upto HT.out q);have HE:Hid (eqVar (x.getD k default) (y.getD k default)=((x.getD k default).kind==(y.getD k default).kind && ((x.getD k default).v.toList==(y.getD k default).v.toList))):=hJ rfl;generalize x.getD k default=s at *;generalize y.getD k default=t at *;by_cases h1:(s.kind==t.kind)=true
    · have q1:(s.kind != t.kind)=false:=by unfold bne;rw [h1];rfl
      by_cases h2:(s.v.toList==t.v.toList)=true
      · have q2:=neqB h2
        have HGo:=hJ (HG.out (by rw [HE.out,h1,h2];rfl));have q3:(!(s.v.toList==t.v.toList))=false:=by rw [h2];rfl
        go_wp2_with fail
        refine kAA (by kernel_rfl) (by kernel_rfl) ?_
        repeat (go_big_quiet_step (fail))
        refine wpQuiet_nil ?_;rintro _ ⟨t9,rfl⟩
        go_wp2_with fail
        go_roundw
        case rel=>exact ⟨k+1,by omega,by go_num,HGo,hB.trans (t9.b.mono hB.size)⟩
        case measure=>simp [intOf];omega
      · have h2:(s.v.toList==t.v.toList)=false:=by simpa using h2
        have q2:=neqB' h2;have HF:=hJ (HH.out (by rw [HE.out,h1,h2];rfl));have q3:(!(s.v.toList==t.v.toList))=true:=by rw [h2];rfl
        go_wp2_with fail
        refine kAA (by kernel_rfl) (by kernel_rfl) ?_
        repeat (go_big_quiet_step (fail))
        refine wpQuiet_nil ?_;rintro _ ⟨t9,rfl⟩
        go_wp2_with fail
        go_ret;exact ⟨by rw [HF.out];rfl,hB.trans (t9.b.mono hB.size)⟩
    · have h1:(s.kind==t.kind)=false:=by simpa using h1
      have q1:(s.kind != t.kind)=true:=by unfold bne;rw [h1];rfl
      have HF:=hJ (HH.out (by rw [HE.out,h1];rfl));clear h1
      go_wp2_with fail
      refine kAA (by kernel_rfl) (by kernel_rfl) ?_
      repeat (go_big_quiet_step (fail))
      refine wpQuiet_nil ?_;rintro _ ⟨t9,rfl⟩
      go_wp2_with fail
      go_ret;exact ⟨by rw [HF.out];rfl,hB.trans (t9.b.mono hB.size)⟩
  · have HF:Hid (kA0 eqVar x y=true):=hJ (eq_done _ (by rw [HL.out,HL2.out]) fun j hj=>HT.out j (by rw [HL.out] at hj;omega))
    go_wp2_with fail
    go_ret;exact ⟨by rw [HF.out];rfl,hB⟩
theorem varsTy_no {x:Typ} (h:kAD x=false):kB2 x=[]:=by unfold kB2;rw [h];rfl
theorem varsSch_no {x:Sch} (h:kAI x=false):kBD x=[]:=by unfold kBD;rw [h];rfl
theorem kJF {S:Blk} {x:Typ} {cs:List Value} {w:World} (h:RTyp.rd S w cs x) (hz:szT x) (E:Env w) :
 Calls Tryz.prog 18 #[.agg cs.toArray] w fun e w'=>(∃ v,e= .returned v∧Own RBnd 47 (fun _=>False) w' w.heap.size v (kB2 x))∧Below w.heap.size w w':=by
 cases hv:kAD x with
 | true=>exact kIM h hv E
 | false =>
   rw [varsTy_no hv];have HV:Hid (∀ W,Below w.heap.size w W→Calls Tryz.prog 26 #[.agg cs.toArray] W fun e w'=>e= .returned (.bool (kAD x))∧Below W.heap.size W w'):=hJ (fun W hW=>kCL (RTyp.below h hW) hz (E.below hW));rw [hv] at HV;obtain ⟨t,rfl,a,c,rfl,hs⟩:=h;clear hs hz E hv;obtain ⟨B0,ya,hW0⟩:=box1 w 26 [.string x.elem,.string x.shape.row,.slice a x.shape.dims.length c];have xa0:=box0 ya 0 _ rfl;have xa1:=box0 ya 1 _ rfl;have xa2:=box0 ya 2 _ rfl;clear ya;have HC:=hJ (HV.out _ B0.out);clear HV;go_enter func18,ntmps18
   go_wp2_with fail
   refine (HC.out).mono ?_;rintro e w1 ⟨rfl,hb⟩
   go_wp2_with fail
   go_ret;exact ⟨⟨_,rfl,Own.nil _ _ _ _ _⟩,B0.out.trans (hb.mono B0.out.size)⟩
theorem types_Vars_any {S:Blk} {x:Sch} {cs:List Value} {w:World} (h:RSch.rd S w cs x) (hz:szS x) (E:Env w) :
 Calls Tryz.prog 32 #[.agg cs.toArray] w fun e w'=>(∃ v,e= .returned v∧Own RBnd 47 (fun _=>False) w' w.heap.size v (kBD x))∧Below w.heap.size w w':=by
 cases hv:kAI x with
 | true=>exact types_Vars h hv E
 | false =>
   rw [varsSch_no hv];have HV:Hid (∀ W,Below w.heap.size w W→Calls Tryz.prog 30 #[.agg cs.toArray] W fun e w'=>e= .returned (.bool (kAI x))∧Below W.heap.size W w'):=hJ (fun W hW=>kA6 (RSch.below h hW) hz (E.below hW));rw [hv] at HV;obtain ⟨p,t,q,rfl,⟨ap,cp,rfl,hp⟩,⟨at_,ct,rfl,ht⟩,⟨aq,cq,rfl,hq⟩⟩:=h;clear hp ht hq hz E hv;obtain ⟨B0,ya,hW0⟩:=box1 w 29 [.slice ap x.params.length cp,.string x.result.elem,.string x.result.shape.row,.slice at_ x.result.shape.dims.length ct,.slice aq x.wh.length cq];have xa0:=box0 ya 0 _ rfl;have xa1:=box0 ya 1 _ rfl;have xa2:=box0 ya 2 _ rfl;have xa3:=box0 ya 3 _ rfl;have xa4:=box0 ya 4 _ rfl;clear ya;have HC:=hJ (HV.out _ B0.out);clear HV;go_enter func32,ntmps32
   go_wp2_with fail
   refine (HC.out).mono ?_;rintro e w1 ⟨rfl,hb⟩
   go_wp2_with fail
   go_ret;exact ⟨⟨_,rfl,Own.nil _ _ _ _ _⟩,B0.out.trans (hb.mono B0.out.size)⟩
theorem ref12_Vars_any {S:Blk} {x:Sch} {cs:List Value} {w:World} (h:RSch.rd S w cs x) (hz:szS x) (E:x.params.length≤1000000) :
 Calls Tryz.prog 33 #[.agg cs.toArray] w fun e w'=>(∃ v,e= .returned v∧Own RBnd 47 (fun _=>False) w' w.heap.size v (kBD x))∧Below w.heap.size w w':=by
 cases hv:kAI x with
 | true=>exact ref12_Vars h hv
 | false =>
   rw [varsSch_no hv];have HV:Hid (∀ W,Below w.heap.size w W→Calls Tryz.prog 17 #[.agg cs.toArray] W fun e w'=>e= .returned (.bool (kAI x))∧Below W.heap.size W w'):=hJ (fun W hW=>kC7 (RSch.below h hW) hz E);rw [hv] at HV;obtain ⟨p,t,q,rfl,⟨ap,cp,rfl,hp⟩,⟨at_,ct,rfl,ht⟩,⟨aq,cq,rfl,hq⟩⟩:=h;clear hp ht hq hz E hv;obtain ⟨B0,ya,hW0⟩:=box1 w 29 [.slice ap x.params.length cp,.string x.result.elem,.string x.result.shape.row,.slice at_ x.result.shape.dims.length ct,.slice aq x.wh.length cq];have xa0:=box0 ya 0 _ rfl;have xa1:=box0 ya 1 _ rfl;have xa2:=box0 ya 2 _ rfl;have xa3:=box0 ya 3 _ rfl;have xa4:=box0 ya 4 _ rfl;clear ya;have HC:=hJ (HV.out _ B0.out);clear HV;go_enter func33,ntmps33
   go_wp2_with fail
   refine (HC.out).mono ?_;rintro e w1 ⟨rfl,hb⟩
   go_wp2_with fail
   go_ret;exact ⟨⟨_,rfl,Own.nil _ _ _ _ _⟩,B0.out.trans (hb.mono B0.out.size)⟩
def kH0 (l:List Bnd) (v:Value) (W:World):Prop:=∃ a c,v= .slice a l.length c∧Sl RBnd All W a l.length c l
theorem kH0.below {l:List Bnd} {v:Value} {W W':World} (h:kH0 l v W) (hb:Below W.heap.size W W'):kH0 l v W':=by
 obtain ⟨a,c,rfl,hs⟩:=h;exact ⟨a,c,rfl,hs.below hb⟩
theorem kIG {P:Program} {f:FuncId} {us:Array Value} {E:TypeId} {W:World} {l:List Bnd} (h:Calls P f us W fun e W'=>(∃ v,e= .returned v∧Own RBnd E (fun _=>False) W' W.heap.size v l)∧Below W.heap.size W W'):Gives P f us (kH0 l) W :=
 h.mono fun e W' ⟨⟨v,he,ho⟩,hb⟩=>by
  obtain ⟨a,c,rfl,hs⟩:=ho.sl;exact ⟨_,he,⟨a,c,rfl,hs.all⟩,hb⟩
theorem same_vars {l:List Bnd} {v u:Value} {W:World} (hv:kH0 l v W) (hu:kH0 l u W):Gives Tryz.prog 29 #[v,u] (fun v _=>v= .bool true) W:=by
 obtain ⟨a,c,rfl,hs⟩:=hv;obtain ⟨a2,c2,rfl,hs2⟩:=hu;exact kCV (eqVars_self l ▸ ref11_SameVars hs hs2)
theorem law12_Forms {S1 S2 S3 S4:Blk} {x y:Typ} {s t:Sch} {cs ds es fs:List Value} {w:World} (h1:RTyp.rd S1 w cs x) (h2:RTyp.rd S2 w ds y) (h3:RSch.rd S3 w es s) (h4:RSch.rd S4 w fs t)
 (hx:∀ y ∈ x.shape.dims,∀ t ∈ y.terms,t.v.size≤281474976710656) (hxr:x.shape.row.size≤281474976710656) (hxe:x.elem.size≤281474976710656)
 (hy:∀ x ∈ y.shape.dims,∀ t ∈ x.terms,t.v.size≤281474976710656) (hyr:y.shape.row.size≤281474976710656) (hye:y.elem.size≤281474976710656)
 (hs:bigS s) (hsw:∀ y ∈ s.wh,szL y) (ht:bigS t) (htw:∀ y ∈ t.wh,szL y) (E:EnvM w) :
 Calls Tryz.prog 5 #[.agg cs.toArray,.agg ds.toArray,.agg (es++fs).toArray] w fun e w'=>e= .returned (.bool true)∧Below w.heap.size w w':=by
 have HE:=hJ (fun (W:World) (hW:Below w.heap.size w W)=>E.below hW);have HF1:=hJ (fun (W:World) (hW:Below w.heap.size w W)=>kER (RTyp.below h1 hW) hx hxr hxe);have HF2:=hJ (fun (W:World) (hW:Below w.heap.size w W)=>kER (RTyp.below h2 hW) hy hyr hye);have HF3:=hJ (fun (W:World) (hW:Below w.heap.size w W)=>ref12_Few (RSch.below h3 hW) hs);have HF4:=hJ (fun (W:World) (hW:Below w.heap.size w W)=>ref12_Few (RSch.below h4 hW) ht);have HA:=hJ (fun (W:World) (hW:Below w.heap.size w W)=>kDL W (E.below hW));have HZ1:=hJ (fun (q:kDW x=true)=>few_typ q);have HZ3:=hJ (fun (q:kFO s=true)=>few_sch q hsw);have HZ4:=hJ (fun (q:kFO t=true)=>few_sch q htw);have HR1:=hJ h1;have HR2:=hJ h2;have HR3:=hJ h3;have HR4:=hJ h4;obtain ⟨_,rfl,a1,c1,rfl,_⟩:=h1;obtain ⟨_,rfl,a2,c2,rfl,_⟩:=h2;obtain ⟨_,_,_,rfl,⟨a3,c3,rfl,_⟩,⟨b3,d3,rfl,_⟩,⟨o3,k3,rfl,_⟩⟩:=h3;obtain ⟨_,_,_,rfl,⟨a4,c4,rfl,_⟩,⟨b4,d4,rfl,_⟩,⟨o4,k4,rfl,_⟩⟩:=h4;clear hx hxr hxe hy hyr hye hs hsw ht htw E;simp only [List.cons_append,List.nil_append];obtain ⟨B0,ya,yb,yc,hW0⟩:=box3 w 26 [.string x.elem,.string x.shape.row,.slice a1 x.shape.dims.length c1] 26 [.string y.elem,.string y.shape.row,.slice a2 y.shape.dims.length c2] 55 [.slice a3 s.params.length c3,.string s.result.elem,.string s.result.shape.row,.slice b3 s.result.shape.dims.length d3,.slice o3 s.wh.length k3,.slice a4 t.params.length c4,.string t.result.elem,.string t.result.shape.row,.slice b4 t.result.shape.dims.length d4,.slice o4 t.wh.length k4];have xa0:=box0 ya 0 _ rfl;have xa1:=box0 ya 1 _ rfl;have xa2:=box0 ya 2 _ rfl;have xb0:=box0 yb 0 _ rfl;have xb1:=box0 yb 1 _ rfl;have xb2:=box0 yb 2 _ rfl;have xc0:=box0 yc 0 _ rfl;have xc1:=box0 yc 1 _ rfl;have xc2:=box0 yc 2 _ rfl;have xc3:=box0 yc 3 _ rfl;have xc4:=box0 yc 4 _ rfl;have xc5:=box0 yc 5 _ rfl;have xc6:=box0 yc 6 _ rfl;have xc7:=box0 yc 7 _ rfl;have xc8:=box0 yc 8 _ rfl;have xc9:=box0 yc 9 _ rfl;have bka:Bx _ _ _ _:=ya;have bkb:Bx _ _ _ _:=yb;have bkc:Bx _ _ _ _:=yc;clear ya yb yc;have HX:=hJ bka;have HY:=hJ bkb;have HS:=hJ bkc;clear bka bkb bkc;clear xa0 xa1 xa2 xb0 xb1 xb2 xc0 xc1 xc2 xc3 xc4 xc5 xc6 xc7 xc8 xc9;go_enter func5,ntmps5
 go_wp2_with fail
 refine (HA.out _ B0.out).mono ?_;rintro e w1 ⟨rfl,hb1⟩;have HW1:=hJ (B0.out.trans (hb1.mono B0.out.size));have HX1:=hJ (HX.out.below hb1 HX.out.lt);have HY1:=hJ (HY.out.below hb1 HY.out.lt);have HS1:=hJ (HS.out.below hb1 HS.out.lt);clear hb1 HX HY HS B0;have x0:=HX1.out.cell 0 _ rfl;have x1:=HX1.out.cell 1 _ rfl;have x2:=HX1.out.cell 2 _ rfl;have y0:=HY1.out.cell 0 _ rfl;have y1:=HY1.out.cell 1 _ rfl;have y2:=HY1.out.cell 2 _ rfl;have s0:=HS1.out.cell 0 _ rfl;have s1:=HS1.out.cell 1 _ rfl;have s2:=HS1.out.cell 2 _ rfl;have s3:=HS1.out.cell 3 _ rfl;have s4:=HS1.out.cell 4 _ rfl;have s5:=HS1.out.cell 5 _ rfl;have s6:=HS1.out.cell 6 _ rfl;have s7:=HS1.out.cell 7 _ rfl;have s8:=HS1.out.cell 8 _ rfl;have s9:=HS1.out.cell 9 _ rfl;have HC:=hJ (HF1.out w1 HW1.out);cases hf0:kDW x with
 | false =>
   have hf:=hf0;rw [hf] at HC
   go_wp2_with fail
   refine (HC.out).mono ?_;rintro e w8 ⟨rfl,hb8⟩;have HW8:=hJ (HW1.out.trans (hb8.mono HW1.out.size));clear hb8
   go_wp2_with fail
   refine (HA.out _ HW8.out).mono ?_;rintro e w9 ⟨rfl,hb9⟩;have HW9:=hJ (HW8.out.trans (hb9.mono HW8.out.size));clear hb9
   go_wp2_with fail
   go_ret;exact ⟨rfl,HW9.out⟩
 | true =>
 rw [hf0] at HC
 go_wp2_with fail
 refine (HC.out).mono ?_;rintro e w2 ⟨rfl,hb2⟩;have HW2:=hJ (HW1.out.trans (hb2.mono HW1.out.size));clear x0 x1 x2 y0 y1 y2 s0 s1 s2 s3 s4 s5 s6 s7 s8 s9;have HX2:=hJ (HX1.out.below hb2 HX1.out.lt);have HY2:=hJ (HY1.out.below hb2 HY1.out.lt);have HS2:=hJ (HS1.out.below hb2 HS1.out.lt);clear hb2 HC HX1 HY1 HS1 HW1 HF1;have x0:=HX2.out.cell 0 _ rfl;have x1:=HX2.out.cell 1 _ rfl;have x2:=HX2.out.cell 2 _ rfl;have y0:=HY2.out.cell 0 _ rfl;have y1:=HY2.out.cell 1 _ rfl;have y2:=HY2.out.cell 2 _ rfl;have s0:=HS2.out.cell 0 _ rfl;have s1:=HS2.out.cell 1 _ rfl;have s2:=HS2.out.cell 2 _ rfl;have s3:=HS2.out.cell 3 _ rfl;have s4:=HS2.out.cell 4 _ rfl;have s5:=HS2.out.cell 5 _ rfl;have s6:=HS2.out.cell 6 _ rfl;have s7:=HS2.out.cell 7 _ rfl;have s8:=HS2.out.cell 8 _ rfl;have s9:=HS2.out.cell 9 _ rfl;have HC:=hJ (HF2.out w2 HW2.out);cases hf1:kDW y with
 | false =>
   have hf:=hf1;rw [hf] at HC
   go_wp2_with fail
   refine (HC.out).mono ?_;rintro e w8 ⟨rfl,hb8⟩;have HW8:=hJ (HW2.out.trans (hb8.mono HW2.out.size));clear hb8
   go_wp2_with fail
   refine (HA.out _ HW8.out).mono ?_;rintro e w9 ⟨rfl,hb9⟩;have HW9:=hJ (HW8.out.trans (hb9.mono HW8.out.size));clear hb9
   go_wp2_with fail
   go_ret;exact ⟨rfl,HW9.out⟩
 | true =>
 rw [hf1] at HC
 go_wp2_with fail
 refine (HC.out).mono ?_;rintro e w3 ⟨rfl,hb3⟩;have HW3:=hJ (HW2.out.trans (hb3.mono HW2.out.size));clear x0 x1 x2 y0 y1 y2 s0 s1 s2 s3 s4 s5 s6 s7 s8 s9;have HX3:=hJ (HX2.out.below hb3 HX2.out.lt);have HY3:=hJ (HY2.out.below hb3 HY2.out.lt);have HS3:=hJ (HS2.out.below hb3 HS2.out.lt);clear hb3 HC HX2 HY2 HS2 HW2 HF2;have x0:=HX3.out.cell 0 _ rfl;have x1:=HX3.out.cell 1 _ rfl;have x2:=HX3.out.cell 2 _ rfl;have y0:=HY3.out.cell 0 _ rfl;have y1:=HY3.out.cell 1 _ rfl;have y2:=HY3.out.cell 2 _ rfl;have s0:=HS3.out.cell 0 _ rfl;have s1:=HS3.out.cell 1 _ rfl;have s2:=HS3.out.cell 2 _ rfl;have s3:=HS3.out.cell 3 _ rfl;have s4:=HS3.out.cell 4 _ rfl;have s5:=HS3.out.cell 5 _ rfl;have s6:=HS3.out.cell 6 _ rfl;have s7:=HS3.out.cell 7 _ rfl;have s8:=HS3.out.cell 8 _ rfl;have s9:=HS3.out.cell 9 _ rfl;have HC:=hJ (HF3.out w3 HW3.out);cases hf2:kFO s with
 | false =>
   have hf:=hf2;rw [hf] at HC
   go_wp2_with fail
   refine (HC.out).mono ?_;rintro e w8 ⟨rfl,hb8⟩;have HW8:=hJ (HW3.out.trans (hb8.mono HW3.out.size));clear hb8
   go_wp2_with fail
   refine (HA.out _ HW8.out).mono ?_;rintro e w9 ⟨rfl,hb9⟩;have HW9:=hJ (HW8.out.trans (hb9.mono HW8.out.size));clear hb9
   go_wp2_with fail
   go_ret;exact ⟨rfl,HW9.out⟩
 | true =>
 rw [hf2] at HC
 go_wp2_with fail
 refine (HC.out).mono ?_;rintro e w4 ⟨rfl,hb4⟩;have HW4:=hJ (HW3.out.trans (hb4.mono HW3.out.size));clear x0 x1 x2 y0 y1 y2 s0 s1 s2 s3 s4 s5 s6 s7 s8 s9;have HX4:=hJ (HX3.out.below hb4 HX3.out.lt);have HY4:=hJ (HY3.out.below hb4 HY3.out.lt);have HS4:=hJ (HS3.out.below hb4 HS3.out.lt);clear hb4 HC HX3 HY3 HS3 HW3 HF3;have x0:=HX4.out.cell 0 _ rfl;have x1:=HX4.out.cell 1 _ rfl;have x2:=HX4.out.cell 2 _ rfl;have y0:=HY4.out.cell 0 _ rfl;have y1:=HY4.out.cell 1 _ rfl;have y2:=HY4.out.cell 2 _ rfl;have s0:=HS4.out.cell 0 _ rfl;have s1:=HS4.out.cell 1 _ rfl;have s2:=HS4.out.cell 2 _ rfl;have s3:=HS4.out.cell 3 _ rfl;have s4:=HS4.out.cell 4 _ rfl;have s5:=HS4.out.cell 5 _ rfl;have s6:=HS4.out.cell 6 _ rfl;have s7:=HS4.out.cell 7 _ rfl;have s8:=HS4.out.cell 8 _ rfl;have s9:=HS4.out.cell 9 _ rfl;have HC:=hJ (HF4.out w4 HW4.out);cases hf3:kFO t with
 | false =>
   have hf:=hf3;rw [hf] at HC
   go_wp2_with fail
   refine (HC.out).mono ?_;rintro e w8 ⟨rfl,hb8⟩;have HW8:=hJ (HW4.out.trans (hb8.mono HW4.out.size));clear hb8
   go_wp2_with fail
   refine (HA.out _ HW8.out).mono ?_;rintro e w9 ⟨rfl,hb9⟩;have HW9:=hJ (HW8.out.trans (hb9.mono HW8.out.size));clear hb9
   go_wp2_with fail
   go_ret;exact ⟨rfl,HW9.out⟩
 | true =>
 rw [hf3] at HC
 go_wp2_with fail
 refine (HC.out).mono ?_;rintro e w5 ⟨rfl,hb5⟩;have HW5:=hJ (HW4.out.trans (hb5.mono HW4.out.size));clear x0 x1 x2 y0 y1 y2 s0 s1 s2 s3 s4 s5 s6 s7 s8 s9;have HX5:=hJ (HX4.out.below hb5 HX4.out.lt);have HY5:=hJ (HY4.out.below hb5 HY4.out.lt);have HS5:=hJ (HS4.out.below hb5 HS4.out.lt);clear hb5 HC HX4 HY4 HS4 HW4 HF4;have x0:=HX5.out.cell 0 _ rfl;have x1:=HX5.out.cell 1 _ rfl;have x2:=HX5.out.cell 2 _ rfl;have y0:=HY5.out.cell 0 _ rfl;have y1:=HY5.out.cell 1 _ rfl;have y2:=HY5.out.cell 2 _ rfl;have s0:=HS5.out.cell 0 _ rfl;have s1:=HS5.out.cell 1 _ rfl;have s2:=HS5.out.cell 2 _ rfl;have s3:=HS5.out.cell 3 _ rfl;have s4:=HS5.out.cell 4 _ rfl;have s5:=HS5.out.cell 5 _ rfl;have s6:=HS5.out.cell 6 _ rfl;have s7:=HS5.out.cell 7 _ rfl;have s8:=HS5.out.cell 8 _ rfl;have s9:=HS5.out.cell 9 _ rfl;have HSx:=hJ (HZ1.out hf0);have HSy:Hid (szT y):=hJ (few_typ hf1);have HSs:=hJ (HZ3.out hf2);have HSt:=hJ (HZ4.out hf3);have HB:=hJ (fun (W:World) (hW:Below w5.heap.size w5 W)=>HW5.out.trans (hW.mono HW5.out.size));have G1:=hJ (fun (W:World) (hW:Below w5.heap.size w5 W)=>kCV (kCL (RTyp.below HR1.out (HB.out W hW)) HSx.out (HE.out W (HB.out W hW)).env));have G3:=hJ (fun (W:World) (hW:Below w5.heap.size w5 W)=>kCV (kGU (RTyp.below HR1.out (HB.out W hW)) HSx.out));have G8:=hJ (fun (W:World) (hW:Below w5.heap.size w5 W)=>kCV (kI0 (RTyp.below HR1.out (HB.out W hW)) (RTyp.below HR2.out (HB.out W hW))));have G11:=hJ (fun (W:World) (hW:Below w5.heap.size w5 W)=>kCV (kGV (RTyp.below HR1.out (HB.out W hW)) (RTyp.below HR2.out (HB.out W hW))));have G16:=hJ (fun (W:World) (hW:Below w5.heap.size w5 W)=>kIG (kJF (RTyp.below HR1.out (HB.out W hW)) HSx.out (HE.out W (HB.out W hW)).env));have G18:=hJ (fun (W:World) (hW:Below w5.heap.size w5 W)=>kIG (kIO (RTyp.below HR1.out (HB.out W hW)) HSx.out));have G24:=hJ (fun (W:World) (hW:Below w5.heap.size w5 W)=>kCV (kA6 (RSch.below HR3.out (HB.out W hW)) HSs.out.1 (HE.out W (HB.out W hW)).env));have G27:=hJ (fun (W:World) (hW:Below w5.heap.size w5 W)=>kCV (kC7 (RSch.below HR3.out (HB.out W hW)) HSs.out.1 (Nat.le_trans HSs.out.2.1 (by decide))));have G35:=hJ (fun (W:World) (hW:Below w5.heap.size w5 W)=>kCV (kFZ (RSch.below HR3.out (HB.out W hW)) (RSch.below HR4.out (HB.out W hW))))
 have G40:=hJ (fun (W:World) (hW:Below w5.heap.size w5 W)=>kCV (kD3 (RSch.below HR3.out (HB.out W hW)) (RSch.below HR4.out (HB.out W hW)) (Nat.le_trans HSs.out.2.1 (by decide)) (Nat.le_trans HSt.out.2.1 (by decide))));have G48:=hJ (fun (W:World) (hW:Below w5.heap.size w5 W)=>kCV ((kJ7 s s).2 rfl ▸ kFZ (RSch.below HR3.out (HB.out W hW)) (RSch.below HR3.out (HB.out W hW))));have G53:=hJ (fun (W:World) (hW:Below w5.heap.size w5 W)=>kIG (types_Vars_any (RSch.below HR3.out (HB.out W hW)) HSs.out.1 (HE.out W (HB.out W hW)).env));have G56:=hJ (fun (W:World) (hW:Below w5.heap.size w5 W)=>kIG (ref12_Vars_any (RSch.below HR3.out (HB.out W hW)) HSs.out.1 (Nat.le_trans HSs.out.2.1 (by decide))));have HPv:=hJ (fun (l:List Bnd) (v:Value) (W W':World) (h:kH0 l v W) (hb:Below W.heap.size W W')=>h.below hb);clear HZ1 HZ3 HZ4 HSx HSy HSs HSt HR1 HR2 HR3 HR4 HE HA HX5 HY5 HS5 hf0 hf1 hf2 hf3;generalize kAD x=b1 at *;generalize kEM x y=b2 at *;generalize kB2 x=l1 at *;generalize kAI s=b3 at *;generalize eqSch s t=b4 at *;generalize kBD s=l2 at *
 go_upto_region 3 with fail
 refine wp_region_held_drew (S:=fun W=>Below w5.heap.size w5 W) (by kernel_rfl) ((Below.refl w5.heap.size w5).drew) (fun hHeld=>?_);refine wpAnyH_take (i:=0) (v:=?_) rfl (by kernel_rfl) (by kernel_rfl) (by kernel_rfl) (fun _ _ _ h=>h) (Or.inl ⟨by kernel_rfl,?_⟩) hHeld ?_
 rotate_left
 · (intro W hSw;have j0:=kAE x0 _ hSw;have j1:=kAE x1 _ hSw;have j2:=kAE x2 _ hSw;  clear hSw;go_simp;first | done | (with_reducible rfl))
 simp only [Act.put,List.getElem_toArray,List.getElem_cons_zero,List.getElem_cons_succ,List.setIfInBounds_toArray,List.set_cons_zero,List.set_cons_succ];refine wpAnyH_take (i:=2) (v:=?_) rfl (by kernel_rfl) (by kernel_rfl) (by kernel_rfl) (fun _ _ _ h=>h) (Or.inl ⟨by kernel_rfl,?_⟩) hHeld ?_
 rotate_left
 · (intro W hSw;have j0:=kAE x0 _ hSw;have j1:=kAE x1 _ hSw;have j2:=kAE x2 _ hSw;  clear hSw;go_simp;first | done | (with_reducible rfl))
 simp only [Act.put,List.getElem_toArray,List.getElem_cons_zero,List.getElem_cons_succ,List.setIfInBounds_toArray,List.set_cons_zero,List.set_cons_succ];refine kBH 1 (R:=(fun v _=>v= .bool b1)) rfl (by kernel_rfl) (by kernel_rfl) (fun _=>by kernel_rfl) (G1.out _ hHeld) hHeld ?_;clear hHeld;rintro _ W1a rfl _ hHeld;simp only [Act.put,List.getElem_toArray,List.getElem_cons_zero,List.getElem_cons_succ,List.setIfInBounds_toArray,List.set_cons_zero,List.set_cons_succ];refine kBH 3 (R:=(fun v _=>v= .bool b1)) rfl (by kernel_rfl) (by kernel_rfl) (fun _=>by kernel_rfl) (G3.out _ hHeld) hHeld ?_;clear hHeld;rintro _ W1b rfl _ hHeld;simp only [Act.put,List.getElem_toArray,List.getElem_cons_zero,List.getElem_cons_succ,List.setIfInBounds_toArray,List.set_cons_zero,List.set_cons_succ];refine wpAnyH_take (i:=4) (v:=.bool true) rfl (by kernel_rfl) (by kernel_rfl) (by kernel_rfl) (fun _ _ _ h=>h) (Or.inl ⟨by kernel_rfl,?_⟩) hHeld ?_
 · intro W hSw;clear hSw;go_simp;first | done | simp
 simp only [Act.put,List.getElem_toArray,List.getElem_cons_zero,List.getElem_cons_succ,List.setIfInBounds_toArray,List.set_cons_zero,List.set_cons_succ];refine wpAnyH_take (i:=5) (v:=?_) rfl (by kernel_rfl) (by kernel_rfl) (by kernel_rfl) (fun _ _ _ h=>h) (Or.inl ⟨by kernel_rfl,?_⟩) hHeld ?_
 rotate_left
 · (intro W hSw;skip;clear hSw;go_simp;first | done | (with_reducible rfl))
 simp only [Act.put,List.getElem_toArray,List.getElem_cons_zero,List.getElem_cons_succ,List.setIfInBounds_toArray,List.set_cons_zero,List.set_cons_succ];refine wpAnyH_take (i:=6) (v:=?_) rfl (by kernel_rfl) (by kernel_rfl) (by kernel_rfl) (fun _ _ _ h=>h) (Or.inl ⟨by kernel_rfl,?_⟩) hHeld ?_
 rotate_left
 · (intro W hSw;have j0:=kAE x0 _ hSw;have j1:=kAE x1 _ hSw;have j2:=kAE x2 _ hSw;  clear hSw;go_simp;first | done | (with_reducible rfl))
 simp only [Act.put,List.getElem_toArray,List.getElem_cons_zero,List.getElem_cons_succ,List.setIfInBounds_toArray,List.set_cons_zero,List.set_cons_succ];refine wpAnyH_take (i:=7) (v:=?_) rfl (by kernel_rfl) (by kernel_rfl) (by kernel_rfl) (fun _ _ _ h=>h) (Or.inl ⟨by kernel_rfl,?_⟩) hHeld ?_
 rotate_left
 · (intro W hSw;have j0:=kAE y0 _ hSw;have j1:=kAE y1 _ hSw;have j2:=kAE y2 _ hSw;  clear hSw;go_simp;first | done | (with_reducible rfl))
 simp only [Act.put,List.getElem_toArray,List.getElem_cons_zero,List.getElem_cons_succ,List.setIfInBounds_toArray,List.set_cons_zero,List.set_cons_succ];refine wpAnyH_take (i:=9) (v:=?_) rfl (by kernel_rfl) (by kernel_rfl) (by kernel_rfl) (fun _ _ _ h=>h) (Or.inl ⟨by kernel_rfl,?_⟩) hHeld ?_
 rotate_left
 · (intro W hSw;have j0:=kAE x0 _ hSw;have j1:=kAE x1 _ hSw;have j2:=kAE x2 _ hSw;  clear hSw;go_simp;first | done | (with_reducible rfl))
 simp only [Act.put,List.getElem_toArray,List.getElem_cons_zero,List.getElem_cons_succ,List.setIfInBounds_toArray,List.set_cons_zero,List.set_cons_succ];refine wpAnyH_take (i:=10) (v:=?_) rfl (by kernel_rfl) (by kernel_rfl) (by kernel_rfl) (fun _ _ _ h=>h) (Or.inl ⟨by kernel_rfl,?_⟩) hHeld ?_
 rotate_left
 · (intro W hSw;have j0:=kAE y0 _ hSw;have j1:=kAE y1 _ hSw;have j2:=kAE y2 _ hSw;  clear hSw;go_simp;first | done | (with_reducible rfl))
 simp only [Act.put,List.getElem_toArray,List.getElem_cons_zero,List.getElem_cons_succ,List.setIfInBounds_toArray,List.set_cons_zero,List.set_cons_succ];refine kBH 8 (R:=(fun v _=>v= .bool b2)) rfl (by kernel_rfl) (by kernel_rfl) (fun _=>by kernel_rfl) (G8.out _ hHeld) hHeld ?_;clear hHeld;rintro _ W2a rfl _ hHeld;simp only [Act.put,List.getElem_toArray,List.getElem_cons_zero,List.getElem_cons_succ,List.setIfInBounds_toArray,List.set_cons_zero,List.set_cons_succ];refine kBH 11 (R:=(fun v _=>v= .bool b2)) rfl (by kernel_rfl) (by kernel_rfl) (fun _=>by kernel_rfl) (G11.out _ hHeld) hHeld ?_;clear hHeld;rintro _ W2b rfl _ hHeld;simp only [Act.put,List.getElem_toArray,List.getElem_cons_zero,List.getElem_cons_succ,List.setIfInBounds_toArray,List.set_cons_zero,List.set_cons_succ];refine wpAnyH_take (i:=12) (v:=.bool true) rfl (by kernel_rfl) (by kernel_rfl) (by kernel_rfl) (fun _ _ _ h=>h) (Or.inl ⟨by kernel_rfl,?_⟩) hHeld ?_
 · intro W hSw;clear hSw;go_simp;first | done | simp
 simp only [Act.put,List.getElem_toArray,List.getElem_cons_zero,List.getElem_cons_succ,List.setIfInBounds_toArray,List.set_cons_zero,List.set_cons_succ];refine wpAnyH_take (i:=13) (v:=.bool true) rfl (by kernel_rfl) (by kernel_rfl) (by kernel_rfl) (fun _ _ _ h=>h) (Or.inl ⟨by kernel_rfl,?_⟩) hHeld ?_
 · intro W hSw;clear hSw;go_simp;first | done | simp
 simp only [Act.put,List.getElem_toArray,List.getElem_cons_zero,List.getElem_cons_succ,List.setIfInBounds_toArray,List.set_cons_zero,List.set_cons_succ];refine wpAnyH_take (i:=14) (v:=?_) rfl (by kernel_rfl) (by kernel_rfl) (by kernel_rfl) (fun _ _ _ h=>h) (Or.inl ⟨by kernel_rfl,?_⟩) hHeld ?_
 rotate_left
 · (intro W hSw;skip;clear hSw;go_simp;first | done | (with_reducible rfl))
 simp only [Act.put,List.getElem_toArray,List.getElem_cons_zero,List.getElem_cons_succ,List.setIfInBounds_toArray,List.set_cons_zero,List.set_cons_succ];refine wpAnyH_take (i:=15) (v:=?_) rfl (by kernel_rfl) (by kernel_rfl) (by kernel_rfl) (fun _ _ _ h=>h) (Or.inl ⟨by kernel_rfl,?_⟩) hHeld ?_
 rotate_left
 · (intro W hSw;have j0:=kAE x0 _ hSw;have j1:=kAE x1 _ hSw;have j2:=kAE x2 _ hSw;  clear hSw;go_simp;first | done | (with_reducible rfl))
 simp only [Act.put,List.getElem_toArray,List.getElem_cons_zero,List.getElem_cons_succ,List.setIfInBounds_toArray,List.set_cons_zero,List.set_cons_succ];refine wpAnyH_take (i:=17) (v:=?_) rfl (by kernel_rfl) (by kernel_rfl) (by kernel_rfl) (fun _ _ _ h=>h) (Or.inl ⟨by kernel_rfl,?_⟩) hHeld ?_
 rotate_left
 · (intro W hSw;have j0:=kAE x0 _ hSw;have j1:=kAE x1 _ hSw;have j2:=kAE x2 _ hSw;  clear hSw;go_simp;first | done | (with_reducible rfl))
 simp only [Act.put,List.getElem_toArray,List.getElem_cons_zero,List.getElem_cons_succ,List.setIfInBounds_toArray,List.set_cons_zero,List.set_cons_succ];refine kBH 16 (R:=(kH0 l1)) rfl (by kernel_rfl) (by kernel_rfl) (fun _=>by kernel_rfl) (G16.out _ hHeld) hHeld ?_;clear hHeld;rintro v16 W3a hv16 _ hHeld;simp only [Act.put,List.getElem_toArray,List.getElem_cons_zero,List.getElem_cons_succ,List.setIfInBounds_toArray,List.set_cons_zero,List.set_cons_succ];refine kBH 18 (R:=(kH0 l1)) rfl (by kernel_rfl) (by kernel_rfl) (fun _=>by kernel_rfl) (G18.out _ hHeld) hHeld ?_;clear hHeld;rintro v18 W3b hv18 hb18 hHeld;simp only [Act.put,List.getElem_toArray,List.getElem_cons_zero,List.getElem_cons_succ,List.setIfInBounds_toArray,List.set_cons_zero,List.set_cons_succ];have hv16:=HPv.out l1 _ _ _ hv16 hb18;refine kBH 19 (R:=fun v _=>v= .bool true) rfl (by kernel_rfl) (by kernel_rfl) (fun _=>by kernel_rfl) (same_vars hv16 hv18) hHeld ?_;clear hHeld;rintro _ W4 rfl _ hHeld;simp only [Act.put,List.getElem_toArray,List.getElem_cons_zero,List.getElem_cons_succ,List.setIfInBounds_toArray,List.set_cons_zero,List.set_cons_succ];refine wpAnyH_take (i:=20) (v:=.bool true) rfl (by kernel_rfl) (by kernel_rfl) (by kernel_rfl) (fun _ _ _ h=>h) (Or.inl ⟨by kernel_rfl,?_⟩) hHeld ?_
 · intro W hSw;clear hSw;go_simp;first | done | simp
 simp only [Act.put,List.getElem_toArray,List.getElem_cons_zero,List.getElem_cons_succ,List.setIfInBounds_toArray,List.set_cons_zero,List.set_cons_succ];refine wpAnyH_take (i:=21) (v:=?_) rfl (by kernel_rfl) (by kernel_rfl) (by kernel_rfl) (fun _ _ _ h=>h) (Or.inl ⟨by kernel_rfl,?_⟩) hHeld ?_
 rotate_left
 · (intro W hSw;skip;clear hSw;go_simp;first | done | (with_reducible rfl))
 simp only [Act.put,List.getElem_toArray,List.getElem_cons_zero,List.getElem_cons_succ,List.setIfInBounds_toArray,List.set_cons_zero,List.set_cons_succ];refine wpAnyH_take (i:=22) (v:=?_) rfl (by kernel_rfl) (by kernel_rfl) (by kernel_rfl) (fun _ _ _ h=>h) (Or.inl ⟨by kernel_rfl,?_⟩) hHeld ?_
 rotate_left
 · (intro W hSw;skip;clear hSw;go_simp;first | done | (with_reducible rfl))
 simp only [Act.put,List.getElem_toArray,List.getElem_cons_zero,List.getElem_cons_succ,List.setIfInBounds_toArray,List.set_cons_zero,List.set_cons_succ];refine wpAnyH_take (i:=23) (v:=?_) rfl (by kernel_rfl) (by kernel_rfl) (by kernel_rfl) (fun _ _ _ h=>h) (Or.inl ⟨by kernel_rfl,?_⟩) hHeld ?_
 rotate_left
 · (intro W hSw;have j0:=kAE s0 _ hSw;have j1:=kAE s1 _ hSw;have j2:=kAE s2 _ hSw;have j3:=kAE s3 _ hSw;have j4:=kAE s4 _ hSw;  clear hSw;go_simp;first | done | (with_reducible rfl))
 simp only [Act.put,List.getElem_toArray,List.getElem_cons_zero,List.getElem_cons_succ,List.setIfInBounds_toArray,List.set_cons_zero,List.set_cons_succ];refine wpAnyH_take (i:=25) (v:=?_) rfl (by kernel_rfl) (by kernel_rfl) (by kernel_rfl) (fun _ _ _ h=>h) (Or.inl ⟨by kernel_rfl,?_⟩) hHeld ?_
 rotate_left
 · (intro W hSw;skip;clear hSw;go_simp;first | done | (with_reducible rfl))
 simp only [Act.put,List.getElem_toArray,List.getElem_cons_zero,List.getElem_cons_succ,List.setIfInBounds_toArray,List.set_cons_zero,List.set_cons_succ];refine wpAnyH_take (i:=26) (v:=?_) rfl (by kernel_rfl) (by kernel_rfl) (by kernel_rfl) (fun _ _ _ h=>h) (Or.inl ⟨by kernel_rfl,?_⟩) hHeld ?_
 rotate_left
 · (intro W hSw;have j0:=kAE s0 _ hSw;have j1:=kAE s1 _ hSw;have j2:=kAE s2 _ hSw;have j3:=kAE s3 _ hSw;have j4:=kAE s4 _ hSw;  clear hSw;go_simp;first | done | (with_reducible rfl))
 simp only [Act.put,List.getElem_toArray,List.getElem_cons_zero,List.getElem_cons_succ,List.setIfInBounds_toArray,List.set_cons_zero,List.set_cons_succ];refine kBH 24 (R:=(fun v _=>v= .bool b3)) rfl (by kernel_rfl) (by kernel_rfl) (fun _=>by kernel_rfl) (G24.out _ hHeld) hHeld ?_;clear hHeld;rintro _ W5a rfl _ hHeld;simp only [Act.put,List.getElem_toArray,List.getElem_cons_zero,List.getElem_cons_succ,List.setIfInBounds_toArray,List.set_cons_zero,List.set_cons_succ];refine kBH 27 (R:=(fun v _=>v= .bool b3)) rfl (by kernel_rfl) (by kernel_rfl) (fun _=>by kernel_rfl) (G27.out _ hHeld) hHeld ?_;clear hHeld;rintro _ W5b rfl _ hHeld;simp only [Act.put,List.getElem_toArray,List.getElem_cons_zero,List.getElem_cons_succ,List.setIfInBounds_toArray,List.set_cons_zero,List.set_cons_succ];refine wpAnyH_take (i:=28) (v:=.bool true) rfl (by kernel_rfl) (by kernel_rfl) (by kernel_rfl) (fun _ _ _ h=>h) (Or.inl ⟨by kernel_rfl,?_⟩) hHeld ?_
 · intro W hSw;clear hSw;go_simp;first | done | simp
 simp only [Act.put,List.getElem_toArray,List.getElem_cons_zero,List.getElem_cons_succ,List.setIfInBounds_toArray,List.set_cons_zero,List.set_cons_succ];refine wpAnyH_take (i:=29) (v:=.bool true) rfl (by kernel_rfl) (by kernel_rfl) (by kernel_rfl) (fun _ _ _ h=>h) (Or.inl ⟨by kernel_rfl,?_⟩) hHeld ?_
 · intro W hSw;clear hSw;go_simp;first | done | simp
 simp only [Act.put,List.getElem_toArray,List.getElem_cons_zero,List.getElem_cons_succ,List.setIfInBounds_toArray,List.set_cons_zero,List.set_cons_succ];refine wpAnyH_take (i:=30) (v:=?_) rfl (by kernel_rfl) (by kernel_rfl) (by kernel_rfl) (fun _ _ _ h=>h) (Or.inl ⟨by kernel_rfl,?_⟩) hHeld ?_
 rotate_left
 · (intro W hSw;skip;clear hSw;go_simp;first | done | (with_reducible rfl))
 simp only [Act.put,List.getElem_toArray,List.getElem_cons_zero,List.getElem_cons_succ,List.setIfInBounds_toArray,List.set_cons_zero,List.set_cons_succ];refine wpAnyH_take (i:=31) (v:=?_) rfl (by kernel_rfl) (by kernel_rfl) (by kernel_rfl) (fun _ _ _ h=>h) (Or.inl ⟨by kernel_rfl,?_⟩) hHeld ?_
 rotate_left
 · (intro W hSw;skip;clear hSw;go_simp;first | done | (with_reducible rfl))
 simp only [Act.put,List.getElem_toArray,List.getElem_cons_zero,List.getElem_cons_succ,List.setIfInBounds_toArray,List.set_cons_zero,List.set_cons_succ];refine wpAnyH_take (i:=32) (v:=?_) rfl (by kernel_rfl) (by kernel_rfl) (by kernel_rfl) (fun _ _ _ h=>h) (Or.inl ⟨by kernel_rfl,?_⟩) hHeld ?_
 rotate_left
 · (intro W hSw;have j0:=kAE s0 _ hSw;have j1:=kAE s1 _ hSw;have j2:=kAE s2 _ hSw;have j3:=kAE s3 _ hSw;have j4:=kAE s4 _ hSw;  clear hSw;go_simp;first | done | (with_reducible rfl))
 simp only [Act.put,List.getElem_toArray,List.getElem_cons_zero,List.getElem_cons_succ,List.setIfInBounds_toArray,List.set_cons_zero,List.set_cons_succ];refine wpAnyH_take (i:=33) (v:=?_) rfl (by kernel_rfl) (by kernel_rfl) (by kernel_rfl) (fun _ _ _ h=>h) (Or.inl ⟨by kernel_rfl,?_⟩) hHeld ?_
 rotate_left
 · (intro W hSw;skip;clear hSw;go_simp;first | done | (with_reducible rfl))
 simp only [Act.put,List.getElem_toArray,List.getElem_cons_zero,List.getElem_cons_succ,List.setIfInBounds_toArray,List.set_cons_zero,List.set_cons_succ];refine wpAnyH_take (i:=34) (v:=?_) rfl (by kernel_rfl) (by kernel_rfl) (by kernel_rfl) (fun _ _ _ h=>h) (Or.inl ⟨by kernel_rfl,?_⟩) hHeld ?_
 rotate_left
 · (intro W hSw;have j5:=kAE s5 _ hSw;have j6:=kAE s6 _ hSw;have j7:=kAE s7 _ hSw;have j8:=kAE s8 _ hSw;have j9:=kAE s9 _ hSw;  clear hSw;go_simp;first | done | (with_reducible rfl))
 simp only [Act.put,List.getElem_toArray,List.getElem_cons_zero,List.getElem_cons_succ,List.setIfInBounds_toArray,List.set_cons_zero,List.set_cons_succ];refine wpAnyH_take (i:=36) (v:=?_) rfl (by kernel_rfl) (by kernel_rfl) (by kernel_rfl) (fun _ _ _ h=>h) (Or.inl ⟨by kernel_rfl,?_⟩) hHeld ?_
 rotate_left
 · (intro W hSw;skip;clear hSw;go_simp;first | done | (with_reducible rfl))
 simp only [Act.put,List.getElem_toArray,List.getElem_cons_zero,List.getElem_cons_succ,List.setIfInBounds_toArray,List.set_cons_zero,List.set_cons_succ];refine wpAnyH_take (i:=37) (v:=?_) rfl (by kernel_rfl) (by kernel_rfl) (by kernel_rfl) (fun _ _ _ h=>h) (Or.inl ⟨by kernel_rfl,?_⟩) hHeld ?_
 rotate_left
 · (intro W hSw;have j0:=kAE s0 _ hSw;have j1:=kAE s1 _ hSw;have j2:=kAE s2 _ hSw;have j3:=kAE s3 _ hSw;have j4:=kAE s4 _ hSw;  clear hSw;go_simp;first | done | (with_reducible rfl))
 simp only [Act.put,List.getElem_toArray,List.getElem_cons_zero,List.getElem_cons_succ,List.setIfInBounds_toArray,List.set_cons_zero,List.set_cons_succ];refine wpAnyH_take (i:=38) (v:=?_) rfl (by kernel_rfl) (by kernel_rfl) (by kernel_rfl) (fun _ _ _ h=>h) (Or.inl ⟨by kernel_rfl,?_⟩) hHeld ?_
 rotate_left
 · (intro W hSw;skip;clear hSw;go_simp;first | done | (with_reducible rfl))
 simp only [Act.put,List.getElem_toArray,List.getElem_cons_zero,List.getElem_cons_succ,List.setIfInBounds_toArray,List.set_cons_zero,List.set_cons_succ];refine wpAnyH_take (i:=39) (v:=?_) rfl (by kernel_rfl) (by kernel_rfl) (by kernel_rfl) (fun _ _ _ h=>h) (Or.inl ⟨by kernel_rfl,?_⟩) hHeld ?_
 rotate_left
 · (intro W hSw;have j5:=kAE s5 _ hSw;have j6:=kAE s6 _ hSw;have j7:=kAE s7 _ hSw;have j8:=kAE s8 _ hSw;have j9:=kAE s9 _ hSw;  clear hSw;go_simp;first | done | (with_reducible rfl))
 simp only [Act.put,List.getElem_toArray,List.getElem_cons_zero,List.getElem_cons_succ,List.setIfInBounds_toArray,List.set_cons_zero,List.set_cons_succ];refine kBH 35 (R:=(fun v _=>v= .bool b4)) rfl (by kernel_rfl) (by kernel_rfl) (fun _=>by kernel_rfl) (G35.out _ hHeld) hHeld ?_;clear hHeld;rintro _ W6a rfl _ hHeld;simp only [Act.put,List.getElem_toArray,List.getElem_cons_zero,List.getElem_cons_succ,List.setIfInBounds_toArray,List.set_cons_zero,List.set_cons_succ];refine kBH 40 (R:=(fun v _=>v= .bool b4)) rfl (by kernel_rfl) (by kernel_rfl) (fun _=>by kernel_rfl) (G40.out _ hHeld) hHeld ?_;clear hHeld;rintro _ W6b rfl _ hHeld;simp only [Act.put,List.getElem_toArray,List.getElem_cons_zero,List.getElem_cons_succ,List.setIfInBounds_toArray,List.set_cons_zero,List.set_cons_succ];refine wpAnyH_take (i:=41) (v:=.bool true) rfl (by kernel_rfl) (by kernel_rfl) (by kernel_rfl) (fun _ _ _ h=>h) (Or.inl ⟨by kernel_rfl,?_⟩) hHeld ?_
 · intro W hSw;clear hSw;go_simp;first | done | simp
 simp only [Act.put,List.getElem_toArray,List.getElem_cons_zero,List.getElem_cons_succ,List.setIfInBounds_toArray,List.set_cons_zero,List.set_cons_succ];refine wpAnyH_take (i:=42) (v:=.bool true) rfl (by kernel_rfl) (by kernel_rfl) (by kernel_rfl) (fun _ _ _ h=>h) (Or.inl ⟨by kernel_rfl,?_⟩) hHeld ?_
 · intro W hSw;clear hSw;go_simp;first | done | simp
 simp only [Act.put,List.getElem_toArray,List.getElem_cons_zero,List.getElem_cons_succ,List.setIfInBounds_toArray,List.set_cons_zero,List.set_cons_succ];refine wpAnyH_take (i:=43) (v:=?_) rfl (by kernel_rfl) (by kernel_rfl) (by kernel_rfl) (fun _ _ _ h=>h) (Or.inl ⟨by kernel_rfl,?_⟩) hHeld ?_
 rotate_left
 · (intro W hSw;skip;clear hSw;go_simp;first | done | (with_reducible rfl))
 simp only [Act.put,List.getElem_toArray,List.getElem_cons_zero,List.getElem_cons_succ,List.setIfInBounds_toArray,List.set_cons_zero,List.set_cons_succ];refine wpAnyH_take (i:=44) (v:=?_) rfl (by kernel_rfl) (by kernel_rfl) (by kernel_rfl) (fun _ _ _ h=>h) (Or.inl ⟨by kernel_rfl,?_⟩) hHeld ?_
 rotate_left
 · (intro W hSw;skip;clear hSw;go_simp;first | done | (with_reducible rfl))
 simp only [Act.put,List.getElem_toArray,List.getElem_cons_zero,List.getElem_cons_succ,List.setIfInBounds_toArray,List.set_cons_zero,List.set_cons_succ];refine wpAnyH_take (i:=45) (v:=?_) rfl (by kernel_rfl) (by kernel_rfl) (by kernel_rfl) (fun _ _ _ h=>h) (Or.inl ⟨by kernel_rfl,?_⟩) hHeld ?_
 rotate_left
 · (intro W hSw;have j0:=kAE s0 _ hSw;have j1:=kAE s1 _ hSw;have j2:=kAE s2 _ hSw;have j3:=kAE s3 _ hSw;have j4:=kAE s4 _ hSw;  clear hSw;go_simp;first | done | (with_reducible rfl))
 simp only [Act.put,List.getElem_toArray,List.getElem_cons_zero,List.getElem_cons_succ,List.setIfInBounds_toArray,List.set_cons_zero,List.set_cons_succ];refine wpAnyH_take (i:=46) (v:=?_) rfl (by kernel_rfl) (by kernel_rfl) (by kernel_rfl) (fun _ _ _ h=>h) (Or.inl ⟨by kernel_rfl,?_⟩) hHeld ?_
 rotate_left
 · (intro W hSw;skip;clear hSw;go_simp;first | done | (with_reducible rfl))
 simp only [Act.put,List.getElem_toArray,List.getElem_cons_zero,List.getElem_cons_succ,List.setIfInBounds_toArray,List.set_cons_zero,List.set_cons_succ];refine wpAnyH_take (i:=47) (v:=?_) rfl (by kernel_rfl) (by kernel_rfl) (by kernel_rfl) (fun _ _ _ h=>h) (Or.inl ⟨by kernel_rfl,?_⟩) hHeld ?_
 rotate_left
 · (intro W hSw;have j0:=kAE s0 _ hSw;have j1:=kAE s1 _ hSw;have j2:=kAE s2 _ hSw;have j3:=kAE s3 _ hSw;have j4:=kAE s4 _ hSw;  clear hSw;go_simp;first | done | (with_reducible rfl))
 simp only [Act.put,List.getElem_toArray,List.getElem_cons_zero,List.getElem_cons_succ,List.setIfInBounds_toArray,List.set_cons_zero,List.set_cons_succ];refine kBH 48 (R:=fun v _=>v= .bool true) rfl (by kernel_rfl) (by kernel_rfl) (fun _=>by kernel_rfl) (G48.out _ hHeld) hHeld ?_;clear hHeld;rintro _ W7 rfl _ hHeld;simp only [Act.put,List.getElem_toArray,List.getElem_cons_zero,List.getElem_cons_succ,List.setIfInBounds_toArray,List.set_cons_zero,List.set_cons_succ];refine wpAnyH_take (i:=49) (v:=.bool true) rfl (by kernel_rfl) (by kernel_rfl) (by kernel_rfl) (fun _ _ _ h=>h) (Or.inl ⟨by kernel_rfl,?_⟩) hHeld ?_
 · intro W hSw;clear hSw;go_simp;first | done | simp
 simp only [Act.put,List.getElem_toArray,List.getElem_cons_zero,List.getElem_cons_succ,List.setIfInBounds_toArray,List.set_cons_zero,List.set_cons_succ];refine wpAnyH_take (i:=50) (v:=?_) rfl (by kernel_rfl) (by kernel_rfl) (by kernel_rfl) (fun _ _ _ h=>h) (Or.inl ⟨by kernel_rfl,?_⟩) hHeld ?_
 rotate_left
 · (intro W hSw;skip;clear hSw;go_simp;first | done | (with_reducible rfl))
 simp only [Act.put,List.getElem_toArray,List.getElem_cons_zero,List.getElem_cons_succ,List.setIfInBounds_toArray,List.set_cons_zero,List.set_cons_succ];refine wpAnyH_take (i:=51) (v:=?_) rfl (by kernel_rfl) (by kernel_rfl) (by kernel_rfl) (fun _ _ _ h=>h) (Or.inl ⟨by kernel_rfl,?_⟩) hHeld ?_
 rotate_left
 · (intro W hSw;skip;clear hSw;go_simp;first | done | (with_reducible rfl))
 simp only [Act.put,List.getElem_toArray,List.getElem_cons_zero,List.getElem_cons_succ,List.setIfInBounds_toArray,List.set_cons_zero,List.set_cons_succ];refine wpAnyH_take (i:=52) (v:=?_) rfl (by kernel_rfl) (by kernel_rfl) (by kernel_rfl) (fun _ _ _ h=>h) (Or.inl ⟨by kernel_rfl,?_⟩) hHeld ?_
 rotate_left
 · (intro W hSw;have j0:=kAE s0 _ hSw;have j1:=kAE s1 _ hSw;have j2:=kAE s2 _ hSw;have j3:=kAE s3 _ hSw;have j4:=kAE s4 _ hSw;  clear hSw;go_simp;first | done | (with_reducible rfl))
 simp only [Act.put,List.getElem_toArray,List.getElem_cons_zero,List.getElem_cons_succ,List.setIfInBounds_toArray,List.set_cons_zero,List.set_cons_succ];refine wpAnyH_take (i:=54) (v:=?_) rfl (by kernel_rfl) (by kernel_rfl) (by kernel_rfl) (fun _ _ _ h=>h) (Or.inl ⟨by kernel_rfl,?_⟩) hHeld ?_
 rotate_left
 · (intro W hSw;skip;clear hSw;go_simp;first | done | (with_reducible rfl))
 simp only [Act.put,List.getElem_toArray,List.getElem_cons_zero,List.getElem_cons_succ,List.setIfInBounds_toArray,List.set_cons_zero,List.set_cons_succ];refine wpAnyH_take (i:=55) (v:=?_) rfl (by kernel_rfl) (by kernel_rfl) (by kernel_rfl) (fun _ _ _ h=>h) (Or.inl ⟨by kernel_rfl,?_⟩) hHeld ?_
 rotate_left
 · (intro W hSw;have j0:=kAE s0 _ hSw;have j1:=kAE s1 _ hSw;have j2:=kAE s2 _ hSw;have j3:=kAE s3 _ hSw;have j4:=kAE s4 _ hSw;  clear hSw;go_simp;first | done | (with_reducible rfl))
 simp only [Act.put,List.getElem_toArray,List.getElem_cons_zero,List.getElem_cons_succ,List.setIfInBounds_toArray,List.set_cons_zero,List.set_cons_succ];refine kBH 53 (R:=(kH0 l2)) rfl (by kernel_rfl) (by kernel_rfl) (fun _=>by kernel_rfl) (G53.out _ hHeld) hHeld ?_;clear hHeld;rintro v53 W8a hv53 _ hHeld;simp only [Act.put,List.getElem_toArray,List.getElem_cons_zero,List.getElem_cons_succ,List.setIfInBounds_toArray,List.set_cons_zero,List.set_cons_succ];refine kBH 56 (R:=(kH0 l2)) rfl (by kernel_rfl) (by kernel_rfl) (fun _=>by kernel_rfl) (G56.out _ hHeld) hHeld ?_;clear hHeld;rintro v56 W8b hv56 hb56 hHeld;simp only [Act.put,List.getElem_toArray,List.getElem_cons_zero,List.getElem_cons_succ,List.setIfInBounds_toArray,List.set_cons_zero,List.set_cons_succ];have hv53:=HPv.out l2 _ _ _ hv53 hb56;refine kBH 57 (R:=fun v _=>v= .bool true) rfl (by kernel_rfl) (by kernel_rfl) (fun _=>by kernel_rfl) (same_vars hv53 hv56) hHeld ?_;clear hHeld;rintro _ W9 rfl _ hHeld;simp only [Act.put,List.getElem_toArray,List.getElem_cons_zero,List.getElem_cons_succ,List.setIfInBounds_toArray,List.set_cons_zero,List.set_cons_succ];refine wpAnyH_take (i:=58) (v:=.bool true) rfl (by kernel_rfl) (by kernel_rfl) (by kernel_rfl) (fun _ _ _ h=>h) (Or.inl ⟨by kernel_rfl,?_⟩) hHeld ?_
 · intro W hSw;clear hSw;go_simp;first | done | simp
 simp only [Act.put,List.getElem_toArray,List.getElem_cons_zero,List.getElem_cons_succ,List.setIfInBounds_toArray,List.set_cons_zero,List.set_cons_succ];refine wpAnyH_take (i:=59) (v:=?_) rfl (by kernel_rfl) (by kernel_rfl) (by kernel_rfl) (fun _ _ _ h=>h) (Or.inl ⟨by kernel_rfl,?_⟩) hHeld ?_
 rotate_left
 · (intro W hSw;skip;clear hSw;go_simp;first | done | (with_reducible rfl))
 simp only [Act.put,List.getElem_toArray,List.getElem_cons_zero,List.getElem_cons_succ,List.setIfInBounds_toArray,List.set_cons_zero,List.set_cons_succ];refine wpAnyH_done (by kernel_rfl) ?_ _
 go_wp2_with fail
 go_ret;exact ⟨rfl,HB.out _ hHeld⟩
end Go.Proofs.YtkndimjghfomcaaGreatDoor
namespace Go.Proofs.YtkndimjghfomcaaGreatDoor.typesForms
open Go.Proofs.Tryz
open Go.ChangeShapes Go.WideShapes Go.ChangeAt Go.RowKit
theorem own:ownKnob Tryz.prog.godebug=none:=by kernel_rfl
theorem kEQ:laidOutB Tryz.prog=true:=by kernel_rfl
theorem kDS {W:World} {l:List (String × DataW Unit)} (name:String) {x:String × DataW Unit} (h:laidMetH Tryz.prog l W) (hf:l.filter (fun y=>y.1==name)=[x]) (hx:[x].filter (fun y=>y.2.handleName?.isNone)=[x]):laidMet Tryz.prog [x] W:=by
 have h1:=h.filter (fun y=>y.1==name);rw [hf] at h1;have h2:=(laidMetH_iff.1 h1).1
 rwa [hx] at h2
theorem kED {W:World} {name tn:String} {d:DataW Unit} {g:Nat} {t:TypeId} {ms:Array (String × TypeId)} (hg:Tryz.prog.globalNamed name=some g) (hty:(Tryz.prog.globals[g]?).map (·.type)=some t) (ht:Tryz.prog.underlying t=some (.interface ms)) (h:laidMet Tryz.prog [(name,.iface tn d)] W):∃ tp p,World.var? Tryz.prog W name=some #[.iface tp p]:=by
 obtain ⟨ps,⟨g',t',cs,fuel,p,q,hg',ht',hvar,hd,_,_⟩,_⟩:=h;obtain rfl:=Option.some.inj (hg.symm.trans hg');obtain rfl:=Option.some.inj (hty.symm.trans ht')
 have key:∃ u v,cs.toList=[.iface u v]:=by
  cases fuel with
  | zero=>simp [DataW.trod] at hd
  | succ n =>
    unfold DataW.trod at hd;rw [ht] at hd
    split at hd <;> simp_all
 obtain ⟨u,v,hc⟩:=key;exact ⟨u,v,by rw [hvar,Array.eq_one_of_toList hc]⟩
theorem gTab:Tryz.prog.globalNamed "internal/strconv.uint64pow10" =some 1:=by kernel_rfl
theorem kJ5:(Tryz.prog.globals[1]?).map (·.type)=some 351:=by kernel_rfl
theorem kKI:Tryz.prog.cellsOf 351=20:=by kernel_rfl
theorem kKH:Tryz.prog.cellsOf 212=1:=by kernel_rfl
theorem env_of {W:World} (hL:laidMetH Tryz.prog Rows.typesFormsUptoRow.laid W) (hsh:W.ShapedOpen Tryz.prog):Env W where
 sx:=kED (g:=4) (tn:= "*errors.errorString") (by kernel_rfl) (by kernel_rfl) underlying192 (kDS "strconv.ErrSyntax" hL (x:=("strconv.ErrSyntax",Rows.laid_strconv_ErrSyntax)) (by kernel_rfl) (by kernel_rfl))
 rg:=kED (g:=5) (tn:= "*errors.errorString") (by kernel_rfl) (by kernel_rfl) underlying192 (kDS "strconv.ErrRange" hL (x:=("strconv.ErrRange",Rows.laid_strconv_ErrRange)) (by kernel_rfl) (by kernel_rfl))
 ten:=Lib.tabIs_of_head (rest:=[]) gTab kJ5 underlying351 underlying212 kKH kKI (kDS "internal/strconv.uint64pow10" hL (x:=("internal/strconv.uint64pow10",Lib.tabData .u64 Lib.pow10Tab)) (by kernel_rfl) (by kernel_rfl))
 big:=by
  have h7:(((begin Tryz.prog (fun _ _=>0) default).world.heap[7]?).bind Obj.row?).isSome=true:=by kernel_rfl
  obtain ⟨⟨z,t⟩,e⟩:=Option.isSome_iff_exists.1 h7;obtain ⟨cs,hc,_⟩:=hsh.1 7 z t (of_decide_eq_true (by kernel_rfl)) e;rcases Nat.lt_or_ge 7 W.heap.size with q | q
  · omega
  · rw [Array.getElem?_eq_none q] at hc;cases hc
theorem envM_of {W:World} (hL:laidMetH Tryz.prog Rows.typesFormsUptoRow.laid W) (hsh:W.ShapedOpen Tryz.prog):EnvM W:=⟨env_of hL hsh,Tryz.laysM146.s1_3 W hsh⟩
theorem kKE (H:Type) (enc:TypeId × Value→H) (W:World) (base:Nat) (args:Array Value) (ds gs:List (DataW H)) (before:List MemPlace)
 (hval0:∀ (j:Nat) t v,Tryz.f5.params[j]? =some t→args[j]? =some v→Value.okWide Tryz.prog W .any base t v)
 (hW:DataW.Whole enc Tryz.prog Tryz.f5.params.toList Rows.typesFormsSpec.vars false W args.toList ds gs before) (hk:Rows.uptoSmall H (ds++gs)=true) (hL:laidMetH Tryz.prog Rows.typesFormsUptoRow.laid W) (hsh:W.ShapedOpen Tryz.prog) :
 Calls Tryz.prog 5 args W fun e W'=>∃ v,e= .returned v∧Rows.typesFormsSpec.post enc Tryz.prog Tryz.f5 false true false false W args v W':=by
 have hval:∀ (j:Nat) t v,Tryz.f5.params[j]? =some t→args[j]? =some v→Value.okWide Tryz.prog W .any base t v:=hval0;have hW':=hW;obtain ⟨p,q,hA0,hV,rfl,hfz,hnd⟩:=hW;have hA:DataW.TrodAll enc Tryz.prog W 0 (fun _=>true) true Tryz.f5.params.toList args.toList ds p:=hA0;rw [Tryz.params5] at hA hval;obtain ⟨v0,vs0,d0,ds0,p0,q0,hargs0,rfl,rfl,h0,r0⟩:=trodAll_cons hA;obtain ⟨v1,vs1,d1,ds1,p1,q1,hargs1,rfl,rfl,h1,r1⟩:=trodAll_cons r0;obtain ⟨v2,vs2,d2,ds2,p2,q2,hargs2,rfl,rfl,h2,r2⟩:=trodAll_cons r1;obtain ⟨rfl,rfl,rfl⟩:=trodAll_nil r2;subst hargs2;subst hargs1;obtain rfl:args= #[v0,v1,v2]:=by cases args;simp_all
 obtain ⟨rfl,rfl⟩:=trodVars_none hV;obtain ⟨cs0,rfl,hcs0⟩:=okWide_struct underlying26 (hval 0 _ v0 rfl rfl);obtain ⟨cs1,rfl,hcs1⟩:=okWide_struct underlying26 (hval 1 _ v1 rfl rfl);obtain ⟨cs2,rfl,hcs2⟩:=okWide_arrN underlying55 (hval 2 _ v2 rfl rfl);have k0:=h0;have lt0:∀ x ∈ p0,x.block<W.heap.size:=by obtain ⟨m,hm⟩:=k0;exact DataW.trod_lt m _ _ _ hm
 have k1:=h1;have lt1:∀ x ∈ p1,x.block<W.heap.size:=by obtain ⟨m,hm⟩:=k1;exact DataW.trod_lt m _ _ _ hm
 have k2:=h2;have lt2:∀ x ∈ p2,x.block<W.heap.size:=by obtain ⟨m,hm⟩:=k2;exact DataW.trod_lt m _ _ _ hm
 have hb2:Rows.uptoBulk d0≤1048576∧Rows.uptoBulk d1≤1048576∧Rows.uptoBulk d2≤1048576:=by
  have h:=of_decide_eq_true hk;simp only [List.append_nil,Rows.uptoBulkAll] at h;omega
 have hb09:=hb2.1;obtain ⟨fuel0,hf0⟩:=h0;obtain ⟨⟨y0,hrd0,hg0⟩,_⟩:=kJX hf0 hb09;have hcs09:cs0=cs0.toList.toArray:=by simp
 have hb19:=hb2.2.1;obtain ⟨fuel1,hf1⟩:=h1;obtain ⟨⟨y1,hrd1,hg1⟩,_⟩:=kJX hf1 hb19;have hcs19:cs1=cs1.toList.toArray:=by simp
 have hb29:=hb2.2.2;obtain ⟨fuel2,hf2⟩:=h2;obtain ⟨y2,z2,es2,fs2,hes2,hrd2,hre2,hg2,hh2⟩:=open_sch2 hf2 hb29;have hcs29:(es2++fs2).toArray=cs2:=by rw [← hes2];show cs2.toList.toArray=cs2;simp
 have hG2:=gS_big (by decide) hg2;have hH2:=gS_big (by decide) hh2;clear hA0 hval0;rw [hcs09];rw [hcs19];have HL:=law12_Forms hrd0 hrd1 hrd2 hre2 (fun d hd t ht=>Nat.le_trans (hg0.2.2 d hd t ht) (by decide)) (Nat.le_trans hg0.2.1 (by decide)) (Nat.le_trans hg0.1 (by decide)) (fun d hd t ht=>Nat.le_trans (hg1.2.2 d hd t ht) (by decide)) (Nat.le_trans hg1.2.1 (by decide)) (Nat.le_trans hg1.1 (by decide)) hG2.1 hG2.2 hH2.1 hH2.2 (envM_of hL hsh);rw [hcs29] at HL;refine HL.mono fun e W' ⟨he,bel⟩=>?_
 subst he;exact ⟨_,rfl,_,_,_,[],_,[],hW',trodAll_mk1 (shut_bool underlying4 _),(trodAll_cons_mk (Below.trod kEQ (by kernel_rfl) (of_decide_eq_true (by kernel_rfl)) k0 bel lt0) (trodAll_cons_mk (Below.trod kEQ (by kernel_rfl) (of_decide_eq_true (by kernel_rfl)) k1 bel lt1) (trodAll_cons_mk (Below.trod kEQ (by kernel_rfl) (of_decide_eq_true (by kernel_rfl)) k2 bel lt2) trodAll_mk0))),rfl,bel.frame _,fun h=>by cases h⟩
abbrev textR:ByteArray:= { data:=#[118,97,108,117,101,32,111,117,116,32,111,102,32,114,97,110,103,101] }
abbrev kBO:ByteArray:= { data:=#[105,110,118,97,108,105,100,32,115,121,110,116,97,120] }
def leaf:DataW Unit→Value
 | .lit (.int k n)=>.int k n
 | _=>.nilIface
def flat1:DataW Unit→List Value
 | .agg ds=>ds.map leaf
 | d=>[leaf d]
def kHW:DataW Unit→List Value
 | .agg ds=>ds.flatMap flat1
 | d=>[leaf d]
def kE9 (g:Nat) (row:List Value) (h:Array Obj):Array Obj:=h.modify g fun
 | .cells _ t frozen=>.cells row.toArray t frozen
 | o=>o
noncomputable def low:Nat:=(World.holding Tryz.prog default ⟨#[],#[],[]⟩).heap.size
noncomputable def kB7 (os:Os):World :=
 let w0:=World.holding Tryz.prog os ⟨#[.cells #[.string textR] 422,.cells #[.string kBO] 422],#[],[]⟩
 { w0 with heap:=kE9 6 (kHW Rows.laid_math_bits_deBruijn32tab) (kE9 7 (kHW Rows.laid_math_bits_deBruijn64tab) (kE9 1 (kHW Rows.laid_internal_strconv_uint64pow10) (kE9 3 (kHW Rows.laid_unicode_utf8_acceptRanges) (kE9 2 (kHW Rows.laid_unicode_utf8_first)
   (kE9 5 [.iface 420 (.pointer (some ⟨low,0,none⟩))] (kE9 4 [.iface 420 (.pointer (some ⟨low+1,0,none⟩))] w0.heap)))))) }
abbrev arg0:Value:=.agg #[.string ⟨#[]⟩,.string ⟨#[]⟩,.slice none 0 0]
abbrev arg1:Value:=.agg #[.string ⟨#[]⟩,.string ⟨#[]⟩,.slice none 0 0]
abbrev arg2:Value:=.agg #[.slice none 0 0,.string ⟨#[]⟩,.string ⟨#[]⟩,.slice none 0 0,.slice none 0 0,.slice none 0 0,.string ⟨#[]⟩,.string ⟨#[]⟩,.slice none 0 0,.slice none 0 0]
theorem kJ3 (os:Os):laidMet Tryz.prog Rows.typesFormsUptoRow.laid ((kB7 os).forCall (fun _ _=>0) ⟨#[],#[arg0,arg1,arg2],[]⟩).memory :=
 laidMet_of_run' 8 (by kernel_rfl) (by kernel_rfl)
theorem reads (os:Os) {H:Type} (enc:TypeId × Value→H):∃ kIQ,DataW.whole enc Tryz.prog ((kB7 os).forCall (fun _ _=>0) ⟨#[],#[arg0,arg1,arg2],[]⟩).memory Tryz.f5.params.toList Rows.typesFormsSpec.vars false #[arg0,arg1,arg2].toList 8=some ([.agg [.lit (.string []),.agg [.lit (.string []),.nil]],.agg [.lit (.string []),.agg [.lit (.string []),.nil]],.agg [.agg [.nil,.agg [.lit (.string []),.agg [.lit (.string []),.nil]],.nil],.agg [.nil,.agg [.lit (.string []),.agg [.lit (.string []),.nil]],.nil]]],[],kIQ) :=
 ⟨[],by kernel_rfl⟩
end Go.Proofs.YtkndimjghfomcaaGreatDoor.typesForms
namespace Go.Proofs.YtkndimjghfomcaaGreatDoor.typesForms
open Go.Proofs.Tryz
open Go.ChangeShapes Go.WideShapes Go.ChangeAt Go.RowKit
theorem k0:(Rows.typesFormsUptoRow.inPlace==Tryz.pinned.checked.prog.inPlace 5)=true:=by kernel_rfl
theorem k1:(Rows.typesFormsUptoRow.unfollowed==Tryz.pinned.checked.prog.unfollowed 5)=true:=by kernel_rfl
end Go.Proofs.YtkndimjghfomcaaGreatDoor.typesForms
namespace Go.Proofs.YtkndimjghfomcaaGreatDoor.typesForms
open Go.Proofs.Tryz
open Go.ChangeShapes Go.WideShapes Go.ChangeAt Go.RowKit
theorem k2:(Rows.typesFormsUptoRow.recurses==Tryz.pinned.checked.prog.recurses 5)=true:=by kernel_rfl
theorem k3:(Rows.typesFormsUptoRow.named==Tryz.pinned.checked.prog.varsNamed 5)=true:=by kernel_rfl
end Go.Proofs.YtkndimjghfomcaaGreatDoor.typesForms
namespace Go.Proofs.YtkndimjghfomcaaGreatDoor.typesForms
open Go.Proofs.Tryz
open Go.ChangeShapes Go.WideShapes Go.ChangeAt Go.RowKit
theorem closed:joinedFacts Tryz.pinned.checked.prog 5 Tryz.f5 (Rows.OpenSpec.upto Rows.typesFormsSpec).bare Rows.typesFormsUptoRow=true:=kHU _ _ _ _ _ k0 k1 k2 k3 kEQ (by kernel_rfl) (by kernel_rfl) (by kernel_rfl)
end Go.Proofs.YtkndimjghfomcaaGreatDoor.typesForms
namespace Go.Proofs.YtkndimjghfomcaaGreatDoor.typesForms
open Go.Proofs.Tryz
open Go.ChangeShapes Go.WideShapes Go.ChangeAt Go.RowKit
theorem kHT (os:Os):laidMetH Tryz.prog Rows.typesFormsUptoRow.laid ((kB7 os).forCall (fun _ _=>0) ⟨#[],#[arg0,arg1,arg2],[]⟩).memory :=
 laidMetH_iff.2 ⟨by
  rw [show (Rows.typesFormsUptoRow.laid.filter fun x=>x.2.handleName?.isNone)=Rows.typesFormsUptoRow.laid from by kernel_rfl]
  exact kJ3 os,by
  rw [show (Rows.typesFormsUptoRow.laid.filter fun x=>x.2.handleName?.isSome)=[] from by kernel_rfl];exact fun x hx=>absurd hx (List.not_mem_nil)⟩
theorem kGF (os:Os) (started:os.Started) (H:Type) (enc:TypeId × Value→H) (F:Stop.Interp) :
 ReturnsInHanded {} Tryz.checked os 5 .any ((Rows.OpenSpec.upto Rows.typesFormsSpec).preRow enc Tryz.prog Tryz.f5 Rows.typesFormsUptoRow.domain false Rows.typesFormsUptoRow.laid) (((Rows.OpenSpec.upto Rows.typesFormsSpec).at F).post enc Tryz.prog Tryz.f5 false true false false):=by
 obtain ⟨kIQ,hx⟩:=reads os enc
 refine returnsInHanded_of_row (C:=Tryz.checked) (s:=Rows.OpenSpec.upto Rows.typesFormsSpec) own started (by kernel_rfl) func5
  (witness_row_at (enc:=enc) (C:=Tryz.checked) false (kB7 os) #[arg0,arg1,arg2] rfl (by kernel_rfl) (by kernel_rfl) (by kernel_rfl)
    (OpenSpec.preRow_of_cond 8 hx (by kernel_rfl) (fun k hk=>by cases hk;kernel_rfl) (by kernel_rfl) (kHT os))) ?_
 intro W base args ds gs before hval hW _ hcond _ hL hsh _;exact kKE H enc W base args ds gs before hval hW (hcond _ rfl) hL hsh
theorem kJQ:Rows.TypesFormsUptoSaid :=
 OpenClaim.holds_of_cond 5 Tryz.f5 rfl rfl rfl rfl rfl rfl rfl ⟨rfl,rfl,rfl,rfl,rfl⟩ rfl rfl rfl rfl rfl (by kernel_rfl) func5 closed
  (of_decide_eq_true (by kernel_rfl)) (by unfold Func.isWrapper;first | (rw [if_pos (by decide +kernel)];kernel_rfl) | (rw [if_neg (by decide +kernel)];exact ⟨rfl,rfl⟩))
  (fun os started H enc _ F=>by rw [OpenClaim.pre_eq_preRow];exact kGF os started H enc F)
theorem plain (f:FuncId) (fn:Func) (hf:Tryz.pinned.checked.prog.funcNamed "framewise/framewiselaw12.TypesForms" =some f) (hfn:Tryz.pinned.checked.prog.funcs[f]? =some fn) :
 true=Tryz.pinned.checked.prog.looks []∧∀ (j:Nat) t,fn.params[j]? =some t→Tryz.pinned.checked.prog.wantsStandIn t=false:=by
 obtain rfl:f=5:=Option.some.inj ((show Tryz.prog.funcNamed "framewise/framewiselaw12.TypesForms" =some 5 by kernel_rfl).symm.trans hf) |>.symm
 obtain rfl:fn=Tryz.f5:=(Option.some.inj (func5.symm.trans hfn)).symm;refine ⟨by kernel_rfl,fun j t ht=>?_⟩;rw [Tryz.params5] at ht
 have hm:t=26∨t=55:=by
  have:=Array.mem_of_getElem? ht;simp at this;omega
 rcases hm with rfl | rfl
 · exact (show Tryz.prog.wantsStandIn 26=false by kernel_rfl)
 · exact (show Tryz.prog.wantsStandIn 55=false by kernel_rfl)
theorem byText:Rows.typesFormsUptoRow.wfByText (Rows.OpenSpec.upto Rows.typesFormsSpec)=true:=by kernel_rfl
theorem goesNot:false=Rows.typesFormsUptoRow.goesBy Tryz.pinned.checked.prog:=kJA rfl (by kernel_rfl)
theorem cardUpto:Rows.TypesFormsUptoCardSaid :=
 Claim7.holds_tied_plain_at .later [] _ _ _ _ kJQ (fun _ h=>by cases h) byText (fun _ h=>by cases h) typesFormsUpto_row_tie rfl ⟨rfl,rfl⟩ (by kernel_rfl) rfl plain goesNot
end Go.Proofs.YtkndimjghfomcaaGreatDoor.typesForms
