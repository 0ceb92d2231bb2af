/- The claim's texts, part U7: contracts of the functions that the statement reaches, and what they say of the data. -/
import Derived.Test.YtcjfagnlmlkedaaGreatDoorU6
set_option maxRecDepth 100000
set_option maxHeartbeats 8000000
set_option linter.all false
namespace Go.Proofs.YtcjfagnlmlkedaaGreatDoor
open Go.Proofs.Tryz
open Go.RowKit
open Go.RowKit Go.ChangeShapes Go.WideShapes Go.Deep
section
variable {H:Type} {enc:TypeId × Value→H} {w:World} {base:Nat} {spare:Nat→Bool} {held:Bool}
theorem bulk_part {d:DataW H} {l:List (DataW H)} (h:d ∈ l):Rows.uptoBulk d≤Rows.uptoBulkAll l:=by
 induction l with
 | nil=>cases h
 | cons x r ih =>
   simp only [Rows.uptoBulkAll];cases List.mem_cons.1 h with
   | inl e=>subst e;omega
   | inr e=>have:=ih e;omega
theorem bulk_two:∀ (l:List (DataW H)),(∀ d ∈ l,2≤Rows.uptoBulk d)→l.length * 2≤Rows.uptoBulkAll l
 | [],_=>Nat.zero_le _
 | d :: l,h=>by
   have h1:=h d (zM ..);have h2:=bulk_two l (fun x hx=>h x (zO _ hx));simp only [Rows.uptoBulkAll,List.length_cons];omega
theorem bulk_slice (elems spare:List (DataW H)):Rows.uptoBulkAll elems≤Rows.uptoBulk (.slice elems spare):=by simp only [Rows.uptoBulk];omega
theorem bulk_agg (parts:List (DataW H)):Rows.uptoBulkAll parts≤Rows.uptoBulk (.agg parts):=by simp only [Rows.uptoBulk];omega
theorem pickL {α :Type} [Inhabited α]:∀ (n:Nat) (P:Nat→ α →Prop),(∀ i,i<n→∃ y,P i y)→∃ l:List α,l.length=n∧∀ i y,l[i]? =some y→P i y
 | 0,P,_=>⟨[],rfl,fun i y h=>by simp at h⟩
 | n+1,P,h=>by
   obtain ⟨y0,h0⟩:=h 0 (by omega);obtain ⟨l,hl,hp⟩:=pickL n (fun i y=>P (i+1) y) (fun i hi=>h (i+1) (by omega));refine ⟨y0 :: l,by rw [List.length_cons,hl],fun i y hy=>?_⟩;cases i with
   | zero=>simp at hy;subst hy;exact h0
   | succ i=>exact hp i y (by simpa using hy)
theorem open_sl {α :Type} [Inhabited α] {R:Rep α} {Good: α →Prop} {t e:TypeId} {fuel:Nat} {cs:List Value} {x:DataW H × List MemPlace} {B:Nat} (ht:Tryz.prog.underlying t=some (.slice e)) (hC:Tryz.prog.cellsOf e=R.size)
 (step:∀ (n:Nat) (cs':List Value) (z:DataW H × List MemPlace),DataW.trod enc Tryz.prog w base spare held n e cs'=some z→Rows.uptoBulk z.1≤B→(∃ y,R.rd All w cs' y∧Good y)∧2≤Rows.uptoBulk z.1)
 (h:DataW.trod enc Tryz.prog w base spare held fuel t cs=some x) (hB:Rows.uptoBulk x.1≤B) :
 ∃ (a:Option Addr) (n c:Nat) (l:List α),cs=[.slice a n c]∧Sl R All w a n c l∧(∀ y ∈ l,Good y)∧l.length * 2≤B:=by
 rcases open_slice ht h with ⟨rfl,rfl⟩ | ⟨a,len,cap,m,n,D,Pl,rfl,hb,hl,hm,hmm,rfl,hi⟩
 · exact ⟨none,0,0,[],rfl,Sl.empty _ _ _,fun y hy=>absurd hy (List.not_mem_nil),Nat.zero_le _⟩
 · have hle:len≤m:=by rw [hmm];split <;> omega
   have hbk:=bulk_slice ((List.range len).map D) ((List.range (m - len)).map fun j=>D (len+j));have hD:∀ i,i<len→Rows.uptoBulk (D i)≤B:=fun i hi'=>zE (bulk_part (List.mem_map.2 ⟨i,List.mem_range.2 hi',rfl⟩)) (zE hbk hB)
   rw [hC] at hi
   have hstep:∀ i,i<len→(∃ y cs',R.rd All w cs' y∧Good y∧∀ j u,cs'[j]? =some u→w.cell? (a.add (i * R.size+j))=some u)∧2≤Rows.uptoBulk (D i):=fun i hi'=>by
    obtain ⟨cs',hcs,htr⟩:=hi i (by omega);obtain ⟨⟨y,hy,hg⟩,h2⟩:=step n cs' _ htr (hD i hi');obtain ⟨_,hlen,hat⟩:=World.cells?_some hcs;refine ⟨⟨y,cs',hy,hg,fun j u hu=>?_⟩,h2⟩
    have hj:j<R.size:=by
     rcases zF j cs'.length with q | q
     · omega
     · rw [List.getElem?_eq_none q] at hu;cases hu
    rw [← Go.Deep.add_add,hat j hj,hu]
   obtain ⟨l,hll,hp⟩:=pickL len (fun i y=>∃ cs',R.rd All w cs' y∧Good y∧∀ j u,cs'[j]? =some u→w.cell? (a.add (i * R.size+j))=some u) (fun i hi'=>(hstep i hi').1);refine ⟨some a,len,cap,l,rfl,⟨hll,hl,hm,by intro h;(cases h),fun i y hy=>?_⟩,fun y hy=>?_,?_⟩
   · obtain ⟨cs',hr,hg,hc⟩:=hp i y hy
     have hlt:i<len:=by
      rcases zF i l.length with q | q
      · omega
      · rw [List.getElem?_eq_none q] at hy;cases hy
     obtain ⟨y0,cs0,hr0,_,hc0⟩:=(hstep 0 (by omega)).1;have hl0:=R.len hr0;have hpos:=R.pos;have h00:=hc0 0 _ (zG (show 0<cs0.length by omega));rw [Nat.zero_mul,Nat.zero_add] at h00;obtain ⟨b,off,sp⟩:=a
     have hsp:sp=none:=by
      cases sp with
      | none=>rfl
      | some k =>
        have:w.cell? (Addr.add ⟨b,off,some k⟩ 0)=none:=by
         show w.cell? ⟨b,off,some k⟩=none
         unfold World.cell?;cases w.heap[b]? with
         | none=>rfl
         | some o=>cases o <;> rfl
        rw [this] at h00;cases h00
     subst hsp;exact ⟨b,off,cs',rfl,trivial,hr,fun j u hu=>by have:=hc j u hu;rwa [add_mk] at this⟩
   · obtain ⟨i,hi',rfl⟩:=List.getElem_of_mem hy
     obtain ⟨_,_,hg,_⟩:=hp i _ (zG hi');exact hg
   · have h2:=bulk_two ((List.range len).map D) (fun d hd=>by
      obtain ⟨i,hi',rfl⟩:=List.mem_map.1 hd;exact (hstep i (List.mem_range.1 hi')).2)
     rw [List.length_map,List.length_range] at h2;have h3:=zE hbk hB;omega
def gC (B:Nat) (y:Coef):Prop:=y.v.size≤B
def gL (B:Nat) (y:Lin):Prop:=∀ t ∈ y.terms,gC B t
def gT (B:Nat) (y:Typ):Prop:=y.elem.size≤B∧y.shape.row.size≤B∧∀ d ∈ y.shape.dims,gL B d
def gS (B:Nat) (y:Sch):Prop:=(∀ t ∈ y.params,gT B t)∧gT B y.result∧(∀ d ∈ y.wh,gL B d)∧y.params.length * 2≤B
theorem bulk_str {s:Str}:Rows.uptoBulk (DataW.lit (H:=H) (.string s.data.toList))=s.size+1:=by
 simp [Rows.uptoBulk]
theorem open_coef {B n:Nat} {cs:List Value} {z:DataW H × List MemPlace} (h:DataW.trod enc Tryz.prog w base spare held n 44 cs=some z) (hB:Rows.uptoBulk z.1≤B):(∃ y,kA7.rd All w cs y∧gC B y)∧2≤Rows.uptoBulk z.1:=by
 obtain ⟨xs,m,rfl,rfl,hl,hx,hf⟩:=DataW.trod_struct underlying44 h;have h0:=hf 0 _ rfl;have h1:=hf 1 _ rfl
 obtain ⟨x0,x1,rfl⟩:∃ x0 x1,xs=[x0,x1]:=by
  match xs,hx with
  | [x0,x1],_=>exact ⟨x0,x1,rfl⟩
 obtain ⟨c0,c1,rfl⟩:∃ c0 c1,cs=[c0,c1]:=by
  have hl:cs.length=2:=hl.trans (by kernel_rfl)
  match cs,hl with
  | [c0,c1],_=>exact ⟨c0,c1,rfl⟩
 obtain ⟨s,e0,rfl,hs⟩:=DataW.trod_string underlying9 (show DataW.trod enc Tryz.prog w base spare held m 9 [c0]=some x0 from h0);obtain ⟨k,e1,rfl,hk⟩:=DataW.trod_int underlying3 (show DataW.trod enc Tryz.prog w base spare held m 3 [c1]=some x1 from h1);cases e0;cases e1;have hb:=bulk_agg ([(DataW.lit (.string s.data.toList):DataW H),.lit (.int .i64 k)])
 have hq:Rows.uptoBulkAll ([(DataW.lit (.string s.data.toList):DataW H),.lit (.int .i64 k)])=s.size+1+(1+0):=by
  simp only [Rows.uptoBulkAll,bulk_str];rfl
 have hB:Rows.uptoBulk (DataW.agg [(DataW.lit (.string s.data.toList):DataW H),.lit (.int .i64 k)])≤B:=hB;refine ⟨⟨⟨s,k⟩,rfl,by show s.size≤B;omega⟩,?_⟩
 show 2≤Rows.uptoBulk (DataW.agg [(DataW.lit (.string s.data.toList):DataW H),.lit (.int .i64 k)])
 omega
theorem bulk_pos (d:DataW H):1≤Rows.uptoBulk d:=by
 cases d with
 | lit l=>cases l <;> simp [Rows.uptoBulk]
 | nil=>simp [Rows.uptoBulk]
 | ptr d=>simp [Rows.uptoBulk]
 | slice elems spare=>simp [Rows.uptoBulk]
 | agg parts=>simp [Rows.uptoBulk]
 | iface t d=>simp [Rows.uptoBulk]
 | map entries=>simp [Rows.uptoBulk]
 | held h=>simp [Rows.uptoBulk]
theorem agg_two (d:DataW H) (l:List (DataW H)):2≤Rows.uptoBulk (.agg (d :: l)):=by
 have h:=bulk_pos d;simp only [Rows.uptoBulk,Rows.uptoBulkAll];omega
theorem kE6 {d:DataW H} {l:List (DataW H)} {B:Nat} (h:Rows.uptoBulk (.agg l)≤B) (hd:d ∈ l):Rows.uptoBulk d≤B:=zE (bulk_part hd) (zE (bulk_agg l) h)
theorem open_str {B m:Nat} {c:Value} {x:DataW H × List MemPlace} (h:DataW.trod enc Tryz.prog w base spare held m 9 [c]=some x) (hB:Rows.uptoBulk x.1≤B):∃ s:Str,c= .string s∧s.size≤B:=by
 obtain ⟨s,e0,rfl,hs⟩:=DataW.trod_string underlying9 h;cases e0;have hB:Rows.uptoBulk (DataW.lit (H:=H) (.string s.data.toList))≤B:=hB;rw [bulk_str] at hB;exact ⟨s,rfl,by omega⟩
theorem two_of {α :Type} {l:List α} (h:l.length=2):∃ a b,l=[a,b]:=by
 match l,h with
 | [a,b],_=>exact ⟨a,b,rfl⟩
theorem three_of {α :Type} {l:List α} (h:l.length=3):∃ a b c,l=[a,b,c]:=by
 match l,h with
 | [a,b,c],_=>exact ⟨a,b,c,rfl⟩
theorem five_of {α :Type} {l:List α} (h:l.length=5):∃ a b c d e,l=[a,b,c,d,e]:=by
 match l,h with
 | [a,b,c,d,e],_=>exact ⟨a,b,c,d,e,rfl⟩
theorem open_lin {B n:Nat} {cs:List Value} {z:DataW H × List MemPlace} (h:DataW.trod enc Tryz.prog w base spare held n 40 cs=some z) (hB:Rows.uptoBulk z.1≤B):(∃ y,RLin.rd All w cs y∧gL B y)∧2≤Rows.uptoBulk z.1:=by
 obtain ⟨xs,m,rfl,rfl,hl,hx,hf⟩:=DataW.trod_struct underlying40 h;obtain ⟨x0,x1,rfl⟩:=two_of hx;obtain ⟨c0,c1,rfl⟩:=two_of (hl.trans (by kernel_rfl));have hB:Rows.uptoBulk (.agg [x0.1,x1.1])≤B:=hB;obtain ⟨k,e0,_,_⟩:=DataW.trod_int underlying3 (show DataW.trod enc Tryz.prog w base spare held m 3 [c0]=some x0 from hf 0 _ rfl);cases e0;obtain ⟨a,n,c,l,e1,hs,hg,_⟩:=open_sl (R:=kA7) (Good:=gC B) underlying38 (by kernel_rfl) (fun n cs' z h hb=>open_coef h hb) (show DataW.trod enc Tryz.prog w base spare held m 38 [c1]=some x1 from hf 1 _ rfl) (kE6 hB (by simp));cases e1;obtain rfl:=hs.len;exact ⟨⟨⟨k,l⟩,⟨_,rfl,a,c,rfl,hs⟩,hg⟩,agg_two _ _⟩
theorem open_shp {B n:Nat} {cs:List Value} {z:DataW H × List MemPlace} (h:DataW.trod enc Tryz.prog w base spare held n 25 cs=some z) (hB:Rows.uptoBulk z.1≤B):∃ y:Shp,RShp.rd All w cs y∧y.row.size≤B∧∀ d ∈ y.dims,gL B d:=by
 obtain ⟨xs,m,rfl,rfl,hl,hx,hf⟩:=DataW.trod_struct underlying25 h;obtain ⟨x0,x1,rfl⟩:=two_of hx;obtain ⟨c0,c1,rfl⟩:=two_of (hl.trans (by kernel_rfl));have hB:Rows.uptoBulk (.agg [x0.1,x1.1])≤B:=hB;obtain ⟨s,rfl,hs0⟩:=open_str (show DataW.trod enc Tryz.prog w base spare held m 9 [c0]=some x0 from hf 0 _ rfl) (kE6 hB (by simp));obtain ⟨a,n,c,l,e1,hs,hg,_⟩:=open_sl (R:=RLin) (Good:=gL B) underlying23 (by kernel_rfl) (fun n cs' z h hb=>open_lin h hb) (show DataW.trod enc Tryz.prog w base spare held m 23 [c1]=some x1 from hf 1 _ rfl) (kE6 hB (by simp));cases e1;obtain rfl:=hs.len;exact ⟨⟨s,l⟩,⟨_,rfl,a,c,rfl,hs⟩,hs0,hg⟩
theorem open_typ {B n:Nat} {cs:List Value} {z:DataW H × List MemPlace} (h:DataW.trod enc Tryz.prog w base spare held n 27 cs=some z) (hB:Rows.uptoBulk z.1≤B):(∃ y,RTyp.rd All w cs y∧gT B y)∧2≤Rows.uptoBulk z.1:=by
 obtain ⟨xs,m,rfl,rfl,hl,hx,hf⟩:=DataW.trod_struct underlying27 h;obtain ⟨x0,x1,rfl⟩:=two_of hx;obtain ⟨c0,c1,c2,rfl⟩:=three_of (hl.trans (by kernel_rfl));have hB:Rows.uptoBulk (.agg [x0.1,x1.1])≤B:=hB;obtain ⟨s,rfl,hs0⟩:=open_str (show DataW.trod enc Tryz.prog w base spare held m 9 [c0]=some x0 from hf 0 _ rfl) (kE6 hB (by simp));have h1:=hf 1 _ rfl;obtain ⟨y,⟨t,e,ht⟩,hy1,hy2⟩:=open_shp (show DataW.trod enc Tryz.prog w base spare held m 25 [c1,c2]=some x1 from h1) (kE6 hB (by simp));cases e;exact ⟨⟨⟨s,y⟩,⟨_,rfl,ht⟩,hs0,hy1,hy2⟩,agg_two _ _⟩
theorem open_sch {B n:Nat} {cs:List Value} {z:DataW H × List MemPlace} (h:DataW.trod enc Tryz.prog w base spare held n 29 cs=some z) (hB:Rows.uptoBulk z.1≤B):∃ y,RSch.rd All w cs y∧gS B y:=by
 obtain ⟨xs,m,rfl,rfl,hl,hx,hf⟩:=DataW.trod_struct underlying29 h;obtain ⟨x0,x1,x2,rfl⟩:=three_of hx;obtain ⟨c0,c1,c2,c3,c4,rfl⟩:=five_of (hl.trans (by kernel_rfl));have hB:Rows.uptoBulk (.agg [x0.1,x1.1,x2.1])≤B:=hB;obtain ⟨a,n,c,l,e1,hs,hg,hln⟩:=open_sl (R:=RTyp) (Good:=gT B) underlying22 (by kernel_rfl) (fun n cs' z h hb=>open_typ h hb) (show DataW.trod enc Tryz.prog w base spare held m 22 [c0]=some x0 from hf 0 _ rfl) (kE6 hB (by simp));cases e1;obtain rfl:=hs.len;have h1:=hf 1 _ rfl;obtain ⟨⟨y,⟨t,e,ht⟩,hy⟩,_⟩:=open_typ (show DataW.trod enc Tryz.prog w base spare held m 27 [c1,c2,c3]=some x1 from h1) (kE6 hB (by simp));cases e;obtain ⟨a2,n2,c5,l2,e2,hs2,hg2,_⟩:=open_sl (R:=RLin) (Good:=gL B) underlying23 (by kernel_rfl) (fun n cs' z h hb=>open_lin h hb) (show DataW.trod enc Tryz.prog w base spare held m 23 [c4]=some x2 from hf 2 _ rfl) (kE6 hB (by simp));cases e2;obtain rfl:=hs2.len;exact ⟨⟨l,y,l2⟩,⟨_,_,_,rfl,⟨a,c,rfl,hs⟩,ht,⟨a2,c5,rfl,hs2⟩⟩,hg,hy,hg2,hln⟩
theorem gL_big {B:Nat} (hB:B≤2000000) {y:Lin} (h:gL B y):bigL y∧szL y:=⟨fun t ht=>zE (h t ht) (by omega),fun t ht=>zE (h t ht) hB⟩
end
open Go.RowKit Go.ChangeShapes Go.WideShapes Go.Deep
section
variable {H:Type} {enc:TypeId × Value→H} {w:World} {base:Nat} {spare:Nat→Bool} {held:Bool}
theorem gS_big {B:Nat} (hB:B≤2000000) {s:Sch} (h:gS B s):bigS s∧∀ y ∈ s.wh,szL y:=by
 obtain ⟨h2,h3,h4,h5⟩:=h;have hT:∀ t,gT B t→bigT t:=fun t q=>⟨fun d hd=>(gL_big hB (q.2.2 d hd)).1,zE q.2.1 (by omega),zE q.1 (by omega)⟩
 refine ⟨⟨fun t ht=>?_,fun y hy=>(gL_big hB (h4 y hy)).1,by omega⟩,fun y hy=>(gL_big hB (h4 y hy)).2⟩;unfold allT at ht;rcases List.mem_append.1 ht with q | q
 · exact hT t (h2 t q)
 · rw [List.mem_singleton] at q;subst q;exact hT _ h3
end
end Go.Proofs.YtcjfagnlmlkedaaGreatDoor
namespace Go.Proofs.YtcjfagnlmlkedaaGreatDoor.typesCanonical
open Go.Proofs.Tryz
open Go.ChangeShapes Go.WideShapes Go.ChangeAt Go.RowKit
theorem own:ownKnob Tryz.prog.godebug=none:=by kernel_rfl
theorem laidOut:laidOutB Tryz.prog=true:=by kernel_rfl
theorem laid_one {W:World} {l:List (String × DataW Unit)} (name:String) {x:String × DataW Unit} (h:laidMetH Tryz.prog l W) (hf:l.filter (fun y=>y.1==name)=[x]) (hx:[x].filter (fun y=>y.2.handleName?.isNone)=[x]):laidMet Tryz.prog [x] W:=by
 have h1:=h.filter (fun y=>y.1==name);rw [hf] at h1;have h2:=(laidMetH_iff.1 h1).1
 rwa [hx] at h2
theorem var_iface {W:World} {name tn:String} {d:DataW Unit} {g:Nat} {t:TypeId} {ms:Array (String × TypeId)} (hg:Tryz.prog.globalNamed name=some g) (hty:(Tryz.prog.globals[g]?).map (·.type)=some t) (ht:Tryz.prog.underlying t=some (.interface ms)) (h:laidMet Tryz.prog [(name,.iface tn d)] W):∃ tp p,World.var? Tryz.prog W name=some #[.iface tp p]:=by
 obtain ⟨ps,⟨g',t',cs,fuel,p,q,hg',ht',hvar,hd,_,_⟩,_⟩:=h;obtain rfl:=Option.some.inj (hg.symm.trans hg');obtain rfl:=Option.some.inj (hty.symm.trans ht')
 have key:∃ u v,cs.toList=[.iface u v]:=by
  cases fuel with
  | zero=>simp [DataW.trod] at hd
  | succ n =>
    unfold DataW.trod at hd;rw [ht] at hd
    split at hd <;> simp_all
 obtain ⟨u,v,hc⟩:=key;exact ⟨u,v,by rw [hvar,Array.eq_one_of_toList hc]⟩
theorem gTab:Tryz.prog.globalNamed "internal/strconv.uint64pow10" =some 1:=by kernel_rfl
theorem gTabType:(Tryz.prog.globals[1]?).map (·.type)=some 319:=by kernel_rfl
theorem cellsTab:Tryz.prog.cellsOf 319=20:=by kernel_rfl
theorem cellsU64:Tryz.prog.cellsOf 165=1:=by kernel_rfl
theorem env_of {W:World} (hL:laidMetH Tryz.prog Rows.typesCanonicalUptoRow.laid W) (hsh:W.ShapedOpen Tryz.prog):Env W where
 sx:=var_iface (g:=4) (tn:= "*errors.errorString") (by kernel_rfl) (by kernel_rfl) underlying184 (laid_one "strconv.ErrSyntax" hL (x:=("strconv.ErrSyntax",Rows.laid_strconv_ErrSyntax)) (by kernel_rfl) (by kernel_rfl))
 rg:=var_iface (g:=5) (tn:= "*errors.errorString") (by kernel_rfl) (by kernel_rfl) underlying184 (laid_one "strconv.ErrRange" hL (x:=("strconv.ErrRange",Rows.laid_strconv_ErrRange)) (by kernel_rfl) (by kernel_rfl))
 ten:=Lib.tabIs_of_head (rest:=[]) gTab gTabType underlying319 underlying165 cellsU64 cellsTab (laid_one "internal/strconv.uint64pow10" hL (x:=("internal/strconv.uint64pow10",Lib.tabData .u64 Lib.pow10Tab)) (by kernel_rfl) (by kernel_rfl))
 big:=by
  have h7:(((begin Tryz.prog (fun _ _=>0) default).world.heap[7]?).bind Obj.row?).isSome=true:=by kernel_rfl
  obtain ⟨⟨z,t⟩,e⟩:=Option.isSome_iff_exists.1 h7;obtain ⟨cs,hc,_⟩:=hsh.1 7 z t (of_decide_eq_true (by kernel_rfl)) e;rcases zF 7 W.heap.size with q | q
  · omega
  · rw [Array.getElem?_eq_none q] at hc;cases hc
theorem envM_of {W:World} (hL:laidMetH Tryz.prog Rows.typesCanonicalUptoRow.laid W) (hsh:W.ShapedOpen Tryz.prog):EnvM W:=⟨env_of hL hsh,Tryz.laysM146.s1_3 W hsh⟩
theorem contract (H:Type) (enc:TypeId × Value→H) (W:World) (base:Nat) (args:Array Value) (ds gs:List (DataW H)) (before:List MemPlace)
 (hval0:∀ (j:Nat) t v,Tryz.f3.params[j]? =some t→args[j]? =some v→Value.okWide Tryz.prog W .any base t v)
 (hW:DataW.Whole enc Tryz.prog Tryz.f3.params.toList Rows.typesCanonicalSpec.vars false W args.toList ds gs before) (hk:Rows.uptoSmall H (ds++gs)=true) (hL:laidMetH Tryz.prog Rows.typesCanonicalUptoRow.laid W) (hsh:W.ShapedOpen Tryz.prog) :
 Calls Tryz.prog 3 args W fun e W'=>∃ v,e= .returned v∧Rows.typesCanonicalSpec.post enc Tryz.prog Tryz.f3 false true false false W args v W':=by
 have hval:∀ (j:Nat) t v,Tryz.f3.params[j]? =some t→args[j]? =some v→Value.okWide Tryz.prog W .any base t v:=hval0;have hW':=hW;obtain ⟨p,q,hA0,hV,rfl,hfz,hnd⟩:=hW;have hA:DataW.TrodAll enc Tryz.prog W 0 (fun _=>true) true Tryz.f3.params.toList args.toList ds p:=hA0;rw [Tryz.params3] at hA hval;obtain ⟨v0,vs0,d0,ds0,p0,q0,hargs0,rfl,rfl,h0,r0⟩:=trodAll_cons hA;obtain ⟨rfl,rfl,rfl⟩:=trodAll_nil r0;obtain rfl:args= #[v0]:=by cases args;simp_all
 obtain ⟨rfl,rfl⟩:=trodVars_none hV;obtain ⟨cs0,rfl,hcs0⟩:=okWide_struct underlying29 (hval 0 _ v0 rfl rfl);have k0:=h0;have lt0:∀ x ∈ p0,x.block<W.heap.size:=by obtain ⟨m,hm⟩:=k0;exact DataW.trod_lt m _ _ _ hm
 have hb2:Rows.uptoBulk d0≤1048576:=by
  have h:=of_decide_eq_true hk;simp only [List.append_nil,Rows.uptoBulkAll] at h;omega
 have hb09:=hb2;obtain ⟨fuel0,hf0⟩:=h0;obtain ⟨y0,hrd0,hg0⟩:=open_sch hf0 hb09;have hcs09:cs0=cs0.toList.toArray:=by simp
 have hG0:=gS_big (by decide) hg0;clear hA0 hval0;rw [hcs09];have HL:=law12_Canonical hrd0 hG0.1 hG0.2 (envM_of hL hsh);refine HL.mono fun e W' ⟨he,bel⟩=>?_
 subst he;exact ⟨_,rfl,_,_,_,[],_,[],hW',trodAll_mk1 (shut_bool underlying4 _),(trodAll_cons_mk (Below.trod laidOut (by kernel_rfl) (of_decide_eq_true (by kernel_rfl)) k0 bel lt0) trodAll_mk0),rfl,bel.frame _,fun h=>by cases h⟩
abbrev textR:ByteArray:= { data:=#[118,97,108,117,101,32,111,117,116,32,111,102,32,114,97,110,103,101] }
abbrev kC4:ByteArray:= { data:=#[105,110,118,97,108,105,100,32,115,121,110,116,97,120] }
def leaf:DataW Unit→Value
 | .lit (.int k n)=>.int k n
 | _=>.nilIface
def flat1:DataW Unit→List Value
 | .agg ds=>ds.map leaf
 | d=>[leaf d]
def flat2:DataW Unit→List Value
 | .agg ds=>ds.flatMap flat1
 | d=>[leaf d]
def layAt (g:Nat) (row:List Value) (h:Array Obj):Array Obj:=h.modify g fun
 | .cells _ t frozen=>.cells row.toArray t frozen
 | o=>o
noncomputable def low:Nat:=(World.holding Tryz.prog default ⟨#[],#[],[]⟩).heap.size
noncomputable def kI4 (os:Os):World :=
 let w0:=World.holding Tryz.prog os ⟨#[.cells #[.string textR] 418,.cells #[.string kC4] 418],#[],[]⟩
 { w0 with heap:=layAt 6 (flat2 Rows.laid_math_bits_deBruijn32tab) (layAt 7 (flat2 Rows.laid_math_bits_deBruijn64tab) (layAt 1 (flat2 Rows.laid_internal_strconv_uint64pow10) (layAt 3 (flat2 Rows.laid_unicode_utf8_acceptRanges) (layAt 2 (flat2 Rows.laid_unicode_utf8_first)
   (layAt 5 [.iface 416 (.pointer (some ⟨low,0,none⟩))] (layAt 4 [.iface 416 (.pointer (some ⟨low+1,0,none⟩))] w0.heap)))))) }
abbrev arg0:Value:=.agg #[.slice none 0 0,.string ⟨#[]⟩,.string ⟨#[]⟩,.slice none 0 0,.slice none 0 0]
theorem laid_met (os:Os):laidMet Tryz.prog Rows.typesCanonicalUptoRow.laid ((kI4 os).forCall (fun _ _=>0) ⟨#[],#[arg0],[]⟩).memory :=
 laidMet_of_run' 8 (by kernel_rfl) (by kernel_rfl)
theorem reads (os:Os) {H:Type} (enc:TypeId × Value→H):∃ places,DataW.whole enc Tryz.prog ((kI4 os).forCall (fun _ _=>0) ⟨#[],#[arg0],[]⟩).memory Tryz.f3.params.toList Rows.typesCanonicalSpec.vars false #[arg0].toList 8=some ([.agg [.nil,.agg [.lit (.string []),.agg [.lit (.string []),.nil]],.nil]],[],places) :=
 ⟨[],by kernel_rfl⟩
end Go.Proofs.YtcjfagnlmlkedaaGreatDoor.typesCanonical
namespace Go.Proofs.YtcjfagnlmlkedaaGreatDoor
open Go.Proofs.Tryz
open Go.ChangeShapes Go.WideShapes Go.ChangeAt
theorem joined_parts (P:Program) (f:FuncId) (fn:Func) (s:ChangeSpec) (c:OpenClaim) (h0:((c.inPlace==P.inPlace f))=true) (h1:((c.unfollowed==P.unfollowed f))=true) (h2:((c.recurses==P.recurses f))=true) (h3:((c.named==P.varsNamed f))=true) (h4:(laidOutB P)=true) (h5:((c.lifted==P.liftsFinal))=true) (h6:(mapsRowed P)=true)
 (hr:(c.wf (OpenSpec.ofChange s) && fn.params.all (P.readableRec ·) && namedTie P c.named s.vars && (c.stops==[]) && (P.stops==[]) && (c.knobs==[]) && (P.stopKnobs==[]) && (c.maps==(fn.params.toList++s.plain.varTypes P).any (P.mapsRec ·)) && (c.ifaces==(fn.params.toList++s.plain.varTypes P).any (P.ifacesRec ·)) && (c.mapsOut==P.mapsAmong fn.resultTypes.toList) && (c.loops==(fn.params.toList++s.plain.varTypes P).any (P.loopsFrom ·)) && (c.wideKeys==(fn.params.toList++s.plain.varTypes P++fn.resultTypes.toList).any (P.wideKeysFrom ·)) && s.vars.all (P.varReadable ·) && fn.resultTypes.all (fun t=>P.readableRec t && decide (t<P.types.size)) && (c.ifacesOut==fn.resultTypes.toList.any (P.ifacesRec ·)) && (c.loopsOut==fn.resultTypes.toList.any (P.loopsFrom ·)) && (c.plainKeys==P.plainKeys) && c.shortTexts.isNone && P.stopsHeard && P.mayEnter && (P.make==some c.make) && (c.kinds==(if c.domain.isEmpty then [] else fn.params.toList.map fun t=>match P.underlying t with | some (.int k)=>some k | _=>none)) && (c.pinned==c.pinnedBy) && (c.veiled==(fn.params.toList++s.plain.varTypes P++fn.resultTypes.toList).any (P.veiledRec ·)) && c.veiledFits P fn.params.toList (fn.params.toList++s.plain.varTypes P++fn.resultTypes.toList))=true):joinedFacts P f fn s c=true:=by
 simp only [zA] at hr;unfold joinedFacts;simp only [zA];simp only [hr,h0,h1,h2,h3,h4,h5,h6,and_self];exact ⟨⟨⟨⟨trivial,hr.1.1.1.2⟩,trivial⟩,trivial⟩,trivial⟩
theorem goes_none {P:Program} (h:P.funcs.any Func.goes=false) (f:FuncId):P.goes f=false:=by
 have one:∀ g:FuncId,(P.funcs[g]?).any Func.goes=false:=fun g=>by
  cases e:P.funcs[g]? with
  | none=>rfl
  | some fn =>
    obtain ⟨hg,e2⟩:=Array.getElem?_eq_some_iff.1 e
    show Func.goes fn=false
    rw [Bool.eq_false_iff];intro q;have:=Array.any_eq_false.1 h g hg;rw [e2] at this;exact this q
 unfold Program.goes;rw [h,Bool.and_false,Bool.or_false];rw [Bool.eq_false_iff];intro q;obtain ⟨g,_,hg⟩:=List.any_eq_true.1 q;rw [one g] at hg;cases hg
theorem goesBy_none {c:OpenClaim} {P:Program} (hs:c.start= .entering) (h:P.funcs.any Func.goes=false):false=c.goesBy P:=by
 unfold OpenClaim.goesBy Program.goesAt Program.goesFrom;rw [hs,Bool.or_false];cases P.funcNamed c.func with
 | none=>rfl
 | some f=>exact (goes_none h f).symm
end Go.Proofs.YtcjfagnlmlkedaaGreatDoor
namespace Go.Proofs.YtcjfagnlmlkedaaGreatDoor.typesCanonical
open Go.Proofs.Tryz
open Go.ChangeShapes Go.WideShapes Go.ChangeAt Go.RowKit
theorem k0:(Rows.typesCanonicalUptoRow.inPlace==Tryz.pinned.checked.prog.inPlace 3)=true:=by kernel_rfl
theorem k1:(Rows.typesCanonicalUptoRow.unfollowed==Tryz.pinned.checked.prog.unfollowed 3)=true:=by kernel_rfl
end Go.Proofs.YtcjfagnlmlkedaaGreatDoor.typesCanonical
namespace Go.Proofs.YtcjfagnlmlkedaaGreatDoor.typesCanonical
open Go.Proofs.Tryz
open Go.ChangeShapes Go.WideShapes Go.ChangeAt Go.RowKit
theorem k2:(Rows.typesCanonicalUptoRow.recurses==Tryz.pinned.checked.prog.recurses 3)=true:=by kernel_rfl
theorem k3:(Rows.typesCanonicalUptoRow.named==Tryz.pinned.checked.prog.varsNamed 3)=true:=by kernel_rfl
end Go.Proofs.YtcjfagnlmlkedaaGreatDoor.typesCanonical
namespace Go.Proofs.YtcjfagnlmlkedaaGreatDoor.typesCanonical
open Go.Proofs.Tryz
open Go.ChangeShapes Go.WideShapes Go.ChangeAt Go.RowKit
theorem closed:joinedFacts Tryz.pinned.checked.prog 3 Tryz.f3 (Rows.OpenSpec.upto Rows.typesCanonicalSpec).bare Rows.typesCanonicalUptoRow=true:=joined_parts _ _ _ _ _ k0 k1 k2 k3 laidOut (by kernel_rfl) (by kernel_rfl) (by kernel_rfl)
end Go.Proofs.YtcjfagnlmlkedaaGreatDoor.typesCanonical
namespace Go.Proofs.YtcjfagnlmlkedaaGreatDoor.typesCanonical
open Go.Proofs.Tryz
open Go.ChangeShapes Go.WideShapes Go.ChangeAt Go.RowKit
theorem laid_metH (os:Os):laidMetH Tryz.prog Rows.typesCanonicalUptoRow.laid ((kI4 os).forCall (fun _ _=>0) ⟨#[],#[arg0],[]⟩).memory :=
 laidMetH_iff.2 ⟨by
  rw [show (Rows.typesCanonicalUptoRow.laid.filter fun x=>x.2.handleName?.isNone)=Rows.typesCanonicalUptoRow.laid from by kernel_rfl]
  exact laid_met os,by
  rw [show (Rows.typesCanonicalUptoRow.laid.filter fun x=>x.2.handleName?.isSome)=[] from by kernel_rfl];exact fun x hx=>absurd hx (List.not_mem_nil)⟩
theorem liftedUpto (os:Os) (started:os.Started) (H:Type) (enc:TypeId × Value→H) (F:Stop.Interp) :
 ReturnsInHanded {} Tryz.checked os 3 .any ((Rows.OpenSpec.upto Rows.typesCanonicalSpec).preRow enc Tryz.prog Tryz.f3 Rows.typesCanonicalUptoRow.domain false Rows.typesCanonicalUptoRow.laid) (((Rows.OpenSpec.upto Rows.typesCanonicalSpec).at F).post enc Tryz.prog Tryz.f3 false true false false):=by
 obtain ⟨places,hx⟩:=reads os enc
 refine returnsInHanded_of_row (C:=Tryz.checked) (s:=Rows.OpenSpec.upto Rows.typesCanonicalSpec) own started (by kernel_rfl) func3
  (witness_row_at (enc:=enc) (C:=Tryz.checked) false (kI4 os) #[arg0] rfl (by kernel_rfl) (by kernel_rfl) (by kernel_rfl)
    (OpenSpec.preRow_of_cond 8 hx (by kernel_rfl) (fun k hk=>by cases hk;kernel_rfl) (by kernel_rfl) (laid_metH os))) ?_
 intro W base args ds gs before hval hW _ hcond _ hL hsh _;exact contract H enc W base args ds gs before hval hW (hcond _ rfl) hL hsh
theorem saidUpto:Rows.TypesCanonicalUptoSaid :=
 OpenClaim.holds_of_cond 3 Tryz.f3 rfl rfl rfl rfl rfl rfl rfl ⟨rfl,rfl,rfl,rfl,rfl⟩ rfl rfl rfl rfl rfl (by kernel_rfl) func3 closed
  (of_decide_eq_true (by kernel_rfl)) (by unfold Func.isWrapper;first | (rw [if_pos (by decide +kernel)];kernel_rfl) | (rw [if_neg (by decide +kernel)];exact ⟨rfl,rfl⟩))
  (fun os started H enc _ F=>by rw [OpenClaim.pre_eq_preRow];exact liftedUpto os started H enc F)
theorem plain (f:FuncId) (fn:Func) (hf:Tryz.pinned.checked.prog.funcNamed "framewise/framewiselaw12.TypesCanonical" =some f) (hfn:Tryz.pinned.checked.prog.funcs[f]? =some fn) :
 true=Tryz.pinned.checked.prog.looks []∧∀ (j:Nat) t,fn.params[j]? =some t→Tryz.pinned.checked.prog.wantsStandIn t=false:=by
 obtain rfl:f=3:=Option.some.inj ((show Tryz.prog.funcNamed "framewise/framewiselaw12.TypesCanonical" =some 3 by kernel_rfl).symm.trans hf) |>.symm
 obtain rfl:fn=Tryz.f3:=(Option.some.inj (func3.symm.trans hfn)).symm;refine ⟨by kernel_rfl,fun j t ht=>?_⟩;rw [Tryz.params3] at ht
 have hm:t=29:=by
  have:=Array.mem_of_getElem? ht;simp at this;omega
 subst hm
 · exact (show Tryz.prog.wantsStandIn 29=false by kernel_rfl)
theorem byText:Rows.typesCanonicalUptoRow.wfByText (Rows.OpenSpec.upto Rows.typesCanonicalSpec)=true:=by kernel_rfl
theorem goesNot:false=Rows.typesCanonicalUptoRow.goesBy Tryz.pinned.checked.prog:=goesBy_none rfl (by kernel_rfl)
theorem cardUpto:Rows.TypesCanonicalUptoCardSaid :=
 Claim7.holds_tied_plain_at .later [] _ _ _ _ saidUpto (fun _ h=>by cases h) byText (fun _ h=>by cases h) typesCanonicalUpto_row_tie rfl ⟨rfl,rfl⟩ (by kernel_rfl) rfl plain goesNot
end Go.Proofs.YtcjfagnlmlkedaaGreatDoor.typesCanonical
