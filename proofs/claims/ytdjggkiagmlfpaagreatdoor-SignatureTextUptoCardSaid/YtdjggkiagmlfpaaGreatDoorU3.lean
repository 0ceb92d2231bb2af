/- The claim's texts, part 3: contracts of the functions that the statement reaches, and what they say of the data. -/
import Derived.Test.YtdjggkiagmlfpaaGreatDoorU2
set_option maxRecDepth 100000
set_option maxHeartbeats 8000000
set_option linter.all false
namespace Go.Proofs.YtdjggkiagmlfpaaGreatDoor
open Go.Proofs.Tryz
open Go.RowKit
open Go.RowKit Go.Maps
theorem Own.ofRow {E:TypeId} {S:Blk} {w:World} {base:Nat} {v:Value} {l:List Str} (h:w.ownsRow base E 1 v l.length (l.map Value.string)):Own RStr E S w base v l:=by
 refine ⟨⟨l.map (fun x=>[.string x]),by rw [List.length_map],?_,fun i x hx=>⟨[.string x],by rw [List.getElem?_map,hx];rfl,rfl⟩⟩⟩
 have:(l.map (fun x=>[Value.string x])).flatten=l.map Value.string:=by
  clear h
  induction l with
  | nil=>rfl
  | cons a l ih=>simp [ih]
 rw [this];exact h
theorem Own.toRow {E:TypeId} {S:Blk} {w:World} {base:Nat} {v:Value} {l:List Str} (h:Own RStr E S w base v l):w.ownsRow base E 1 v l.length (l.map Value.string):=by
 obtain ⟨css,h1,h2,h3⟩:=h.row
 have:css=l.map (fun x=>[Value.string x]):=by
  refine List.ext_getElem (by rw [List.length_map];exact h1) fun i hi hi2=>?_
  rw [List.length_map] at hi2;obtain ⟨cs,e,r⟩:=h3 i l[i] (List.getElem?_eq_getElem hi2);obtain rfl:cs=_:=r;rw [List.getElem?_eq_getElem hi] at e;rw [List.getElem_map];exact Option.some.inj e
 subst this
 have e:(l.map (fun x=>[Value.string x])).flatten=l.map Value.string:=by
  clear h h1 h2 h3
  induction l with
  | nil=>rfl
  | cons a l ih=>simp [ih]
 rw [e] at h2;exact h2
theorem map_enc (ss:List (List UInt8)):(ss.map mkS).map Value.string=ss.map encStr:=by rw [List.map_map];rfl
theorem size_le {w:World} {b n:Nat} {D:DataW Unit} (h:w.ownsMap Tryz.prog 9 (mapRd Tryz.prog) b n D):size D≤n:=by
 obtain ⟨es,clock,_,_,hn,rfl⟩:=h
 show ((es.toList.map _).foldr DataW.insert []).length≤n
 rw [length_sorted,List.length_map];exact hn
def nzK (x:Lin) (b:List UInt8):Bool:=kAP x.terms (mkS b) != 0
theorem strInv:∀ key kl,keyOf Tryz.prog 9 key=some kl→∃ x:List UInt8,key=encStr x:=fun key kl hk=>by obtain ⟨x,hx,_⟩:=Maps.keyOf_str underlying9 hk;exact ⟨x,hx⟩
theorem intInv:∀ v y,mapRd Tryz.prog v=some y→∃ c:Int,v= .int .i64 c:=fun v y hv=>by obtain ⟨c,rfl,_⟩:=plainElem_int_inv underlying3 hv;exact ⟨c,rfl⟩
theorem kJJ {w:World} (p o bm n:Nat) {E0:TypeId} {cs0:List Value} (D:DataW Unit) (x:Lin) (hs:Srt x.terms) (hz0:Nz x.terms) (hz:szL x) (hBx:Bx w p E0 cs0) (hc0:cs0[o]? =some (.int .i64 x.const)) (hc1:cs0[o+1]? =some (.map (some bm))) (hM:MapF w bm n D (kAP x.terms)) (hn:n≤1000) (E:Env w) :
 Calls Tryz.prog 111 #[.pointer (some ⟨p,o,none⟩)] w fun e w'=>(∃ ds,e= .returned (.tuple #[.agg ds.toArray,.int .i64 (limE x)])∧RLin.rd (fun k=>w.heap.size≤k) w' ds (limL x))∧Below w.heap.size w w':=by
 have hp0:=hBx.cell o _ hc0;have hp1:=hBx.cell (o+1) _ hc1;have HC1:=hJ hc1;have hpl:=hBx.lt;have HBX:=hJ hBx;have HM:=hJ hM;have HSrt:=hJ hs;have HNz:=hJ hz0;have HZ:=hJ hz;have EE:=hJ E;clear hBx hc0 hc1 hM hs hz0 hz E;obtain ⟨B0,ya,yb,hW0⟩:=box2 w 49 [.int .i64 0,.slice none 0 0] 49 [.int .i64 x.const,.slice none 0 0];have xa0:=box0 ya 0 _ rfl;have xa1:=box0 ya 1 _ rfl;have xb0:=box0 yb 0 _ rfl;have xb1:=box0 yb 1 _ rfl;have bka:Bx _ _ _ _:=ya;have bkb:Bx _ _ _ _:=yb;clear ya yb;have HB2:=hJ bka;have HB4:=hJ bkb;have HM0:=hJ (HM.out.kept B0.out);clear xa0 xa1 xb0 xb1 bka bkb;go_enter func111,ntmps111
 go_wp2_with (first | (at_range;refine wpList_range_own _ rfl _ _ rfl 9 3 strKey underlying141 (mapRd Tryz.prog) bm n D rfl HM0.out.own ?_;intro w0 hrg0 hg0 hs0))
 have HB0:Hid (Below (w.heap.size+2) ((w.alloc (.cells #[.int .i64 0,.slice none 0 0] 49)).alloc (.cells #[.int .i64 x.const,.slice none 0 0] 49)) w0):=hJ ⟨hg0.os,hg0.tape,hg0.output,hg0.size,fun k hk=>hg0.block k (by simp;omega) (by simp)⟩;have HSz:=hJ (size_le HM0.out.own);have HM1:=hJ (HM0.out.kept ⟨hg0.os,hg0.tape,hg0.output,hg0.size,fun k hk=>hg0.block k hk (by simp)⟩);clear hg0;generalize ((w.alloc (.cells #[.int .i64 0,.slice none 0 0] 49)).alloc (.cells #[.int .i64 x.const,.slice none 0 0] 49))=W at *;have hWa:w.heap.size+2≤W.heap.size:=by omega
 have hWb:W.heap.size≤w.heap.size+2:=by omega
 clear hW0;have hbml:=HM.out.lt
 go_frame
 go_loopw [5] (fun v wr=>∃ (left:Lit→Bool) (cnt:Nat) (ss:List (List UInt8)) (v0:Value),v0=v∧wr.ranges Tryz.prog 9 (mapRd Tryz.prog) bm W.heap.size n D left cnt∧Hid (Collected D left ss)∧ss.length+cnt≤size D∧Hid (Own RStr 9 (fun _=>False) wr (w.heap.size+3) v ((ss.filter (nzK x)).map mkS))∧Hid (Below (w.heap.size+2) W wr)∧w.heap.size+3≤wr.heap.size) (fun _ wr=>wr.rangeLeft bm W.heap.size)
 case atStart=>exact ⟨_,_,[],_,rfl,hrg0,hJ (Collected.start D),by simp,hJ (Own.nil _ _ _ _ _),HB0,by omega⟩
 case round =>
  obtain ⟨left,cnt,ss,v0,rfl,hrg,HC,hcnt,HO,HB,hws⟩:=hrel;have hszn:=HSz.out
  go_wp2_with (first
   | (at_next;refine wpList_next_ranges _ rfl _ rfl 9 strKey (mapRd Tryz.prog) encStr (Value.int .i64) strInv intInv bm W.heap.size n D left cnt rfl hrg ?_ ?_))
  · intro hc0 hl0
    have HTerms:Hid (((ss.filter (nzK x)).mergeSort leB).map (kI0 (kAP x.terms))=x.terms):=hJ (by
     obtain ⟨h1,h2⟩:=HC.out;refine terms_of HSrt.out HNz.out (h1.filter _) (fun b=>?_);rw [List.mem_filter]
     constructor
     · rintro ⟨_,q⟩;simpa [nzK] using q
     · intro q
       refine ⟨(h2 b).2 ⟨has_of_nz (by obtain ⟨es,hD,_⟩:=HM.out.own.entries strKey;exact ⟨es,hD⟩) (HM.out.at_ (mkS b)) q,hl0 _⟩,by simpa [nzK] using q⟩)
    have hfl:(ss.filter (nzK x)).length≤1000:=by
     have:=List.length_filter_le (nzK x) ss;omega
    have hrow:=HO.out.toRow;rw [List.length_map,map_enc] at hrow;clear hrg HC hc0 hl0 HO;generalize ss.filter (nzK x)=Ls at *;have hML:(Ls.mergeSort leB).length=Ls.length:=List.length_mergeSort _;obtain ⟨_,⟨rfl,h0⟩ | ⟨g,cap,cur,rfl,hbase,hb,h1,h2,h3,h4⟩⟩:=hrow
    · have hLs:Ls=[]:=List.eq_nil_of_length_eq_zero h0
      subst hLs
      go_wp2_with (go_at_call 173;refine (sort_none _).mono ?_;rintro e W5 ⟨rfl,hb5⟩;have HB5:=hJ (HB.out.trans (hb5.mono (by omega))))
      have HS5:Hid (Sl RStr (fun k=>w.heap.size+3≤k) W5 none 0 0 ((([]:List (List UInt8)).mergeSort leB).map mkS)):=hJ (by rw [List.mergeSort_nil];exact Sl.empty _ _ _);have HMl:Hid ((([]:List (List UInt8)).mergeSort leB).length=0):=hJ hML;generalize ([]:List (List UInt8)).mergeSort leB=M at *;have HXM5:=hJ (HM.out.kept (B0.out.trans (HB5.out.mono (by omega))));have HX5:=hJ (HBX.out.below (B0.out.trans (HB5.out.mono (by omega))) hpl);have HX24:=hJ (HB2.out.below HB5.out (by omega));have HX45:=hJ (HB4.out.below HB5.out (by omega));have E5:=hJ (EE.out.below (B0.out.trans (HB5.out.mono (by omega))));have hpl5:p<W5.heap.size:=HX5.out.lt;have hl45:w.heap.size+1<W5.heap.size:=HX45.out.lt;have hsm5:=HS5.out.small
      go_wp2_with fail
      go_loopw [35] (fun i wr=>∃ (k:Nat) (v:Value),k≤0∧i= .int .i64 k∧Hid (Bx wr (w.heap.size+1) 49 [.int .i64 x.const,v])∧Hid (Own kCB 46 (fun _=>False) wr W5.heap.size v ((M.take k).map (kI0 (kAP x.terms))))∧Hid (K2 (w.heap.size+1) (w.heap.size+1) W5 wr)) (fun i _=>0 - (intOf i).toNat)
      case atStart=>exact ⟨0,_,Nat.zero_le _,rfl,HX45,hJ (Own.nil _ _ _ _ _),hJ (K2.refl _ _ _)⟩
      case round =>
       obtain ⟨k,v,hk,rfl,HX,HO,HK⟩:=hrel;have hsz6:=HK.out.size;by_cases hlt:k<0
       · exact absurd hlt (by omega)
       · have HTE:Hid ((M.take k).map (kI0 (kAP x.terms))=x.terms):=hJ (by rw [List.take_of_length_le (by rw [HMl.out];omega),HTerms.out])
         rw [HTE.out] at HO;obtain ⟨av,cv,rfl,hsv⟩:=HO.out.sl;have HBw:Hid (Below w.heap.size w wr):=hJ (B0.out.trans ((HB5.out.mono (by omega)).trans ((HK.out.below (B:=w.heap.size) (by omega) (by omega) (by omega)))));have HCV:=hJ (kEK x av _ cv wr hsv HZ.out (EE.out.below HBw.out));have z0:=HX.out.cell 0 _ rfl;have z1:=HX.out.cell 1 _ rfl;have HX2w:=hJ (HK.out.bx HX24.out (by omega) (by omega));have HSv:=hJ hsv;have hl2:w.heap.size<wr.heap.size:=HX2w.out.lt;have HL1:Hid (limL x=if kAC x then x else ⟨0,[]⟩):=hJ rfl;have HL2:Hid (limE x=if kAC x then 0 else 3):=hJ rfl;clear hsv HO;by_cases hv:kAC x=true
         · rw [hv] at HCV
           have HL1:Hid (limL x=x):=hJ (by rw [HL1.out,hv];rfl);have HL2:Hid (limE x=0):=hJ (by rw [HL2.out,hv];rfl);clear hv
           go_wp2_with fail
           refine (HCV.out).mono ?_;rintro e w7 ⟨rfl,hb7⟩;have HX27:=hJ (HX2w.out.below hb7 hl2);have HX47:=hJ (HX.out.below hb7 HX.out.lt);have k0:=HX47.out.cell 0 _ rfl;have k1:=HX47.out.cell 1 _ rfl;have u0:=HX27.out.cell 0 _ rfl;have u1:=HX27.out.cell 1 _ rfl;have u2:=HX27.out.fz 0;have u3:=HX27.out.fz 1;have HX60:=hJ ((HX27.out.set 0 (.int .i64 x.const)).set 1 (.slice av x.terms.length cv));have s0:=HX60.out.cell 0 _ rfl;have s1:=HX60.out.cell 1 _ rfl
           go_wp2_with fail
           refine bodyPost_ret (v:=.tuple #[.agg #[.int .i64 x.const,.slice av x.terms.length cv],.int .i64 0]) (by simp [results,results111,go_sem,s0,s1]) rfl ?_;refine ⟨⟨[.int .i64 x.const,.slice av x.terms.length cv],by rw [HL2.out],?_⟩,?_⟩
           · rw [HL1.out]
             refine ⟨_,rfl,av,cv,rfl,?_⟩;refine ((HSv.out.below hb7).frame fun q hq _=>?_).mono (fun q hq _=>by rcases hq with hq | hq;exact hq.elim;omega);have hq2:W5.heap.size≤q:=by rcases hq with hq | hq;exact hq.elim;exact hq
             rw [kAB (by show w.heap.size≠q;omega),kAB (by show w.heap.size≠q;omega)]
           · exact ((HBw.out.trans (hb7.mono (by omega))).setCell (Nat.le_refl _) _).setCell (Nat.le_refl _) _
         · have hv:kAC x=false:=by simpa using hv
           rw [hv] at HCV;have HL1:Hid (limL x=⟨0,[]⟩):=hJ (by rw [HL1.out,hv];rfl);have HL2:Hid (limE x=3):=hJ (by rw [HL2.out,hv];rfl);clear hv
           go_wp2_with fail
           refine (HCV.out).mono ?_;rintro e w7 ⟨rfl,hb7⟩;have HX27:=hJ (HX2w.out.below hb7 hl2);have u0:=HX27.out.cell 0 _ rfl;have u1:=HX27.out.cell 1 _ rfl;have u2:=HX27.out.fz 0;have u3:=HX27.out.fz 1;have HX60:=hJ ((HX27.out.set 0 (.int .i64 0)).set 1 (.slice none 0 0));have s0:=HX60.out.cell 0 _ rfl;have s1:=HX60.out.cell 1 _ rfl
           go_wp2_with fail
           refine bodyPost_ret (v:=.tuple #[.agg #[.int .i64 0,.slice none 0 0],.int .i64 3]) (by simp [results,results111,go_sem,s0,s1]) rfl ?_;refine ⟨⟨[.int .i64 0,.slice none 0 0],by rw [HL2.out],by rw [HL1.out];exact RLin.zero _ _⟩,((HBw.out.trans (hb7.mono (by omega))).setCell (Nat.le_refl _) _).setCell (Nat.le_refl _) _⟩
    · have hH:Go.Sort.Holds encStr wr g 0 Ls.toArray:=holds_of_block hb (by simpa using h4)
      have hgl:g<wr.heap.size:=(Array.getElem?_eq_some_iff.1 hb).1;have hcs:=hJ (Tryz.slices_Sort_string g 0 cap Ls wr hH hgl (by omega))
      go_wp2_with (go_at_call 173;refine hcs.out.mono ?_;rintro e W5 ⟨rfl,nn,os,hW5⟩;have HW5:=hJ hW5;clear hW5)
      have HR5:=ownsRow_sorted (n:=nn) (os:=os) (cap:=cap) (ts:=Ls.mergeSort leB) (ss:=Ls) hML hbase hb h1 h2 h3;have hg5:wr.grownBy W5 (some g):=by rw [HW5.out];exact grownBy_sorted _
      have HB5:Hid (Below (w.heap.size+2) W W5):=hJ (HB.out.trans ⟨hg5.os,hg5.tape,hg5.output,hg5.size,fun k hk=>hg5.block k (by omega) (fun e=>by cases e;omega)⟩)
      have HO5:Hid (Own RStr 9 (fun _=>False) W5 (w.heap.size+3) (.slice (some ⟨g,0,none⟩) Ls.length cap) ((Ls.mergeSort leB).map mkS)):=hJ (Own.ofRow (by
       rw [map_enc,List.length_map,hML,HW5.out];exact HR5))
      have HS5:Hid (Sl RStr (fun k=>w.heap.size+3≤k) W5 (some ⟨g,0,none⟩) Ls.length cap ((Ls.mergeSort leB).map mkS)):=hJ (by
       obtain ⟨a5,c5,e5,hs5⟩:=HO5.out.sl;rw [Value.slice.injEq] at e5;obtain ⟨rfl,e6,rfl⟩:=e5;rw [← e6] at hs5;exact hs5.mono (fun k hk _=>by rcases hk with hk | hk;exact hk.elim;exact hk))
      have HMl:Hid ((Ls.mergeSort leB).length=Ls.length):=hJ hML;clear HR5 hg5 HW5 hH hcs h3 h4 hb hML;generalize Ls.mergeSort leB=M at *;have HXM5:=hJ (HM.out.kept (B0.out.trans (HB5.out.mono (by omega))));have HX5:=hJ (HBX.out.below (B0.out.trans (HB5.out.mono (by omega))) hpl);have HX24:=hJ (HB2.out.below HB5.out (by omega));have HX45:=hJ (HB4.out.below HB5.out (by omega));have E5:=hJ (EE.out.below (B0.out.trans (HB5.out.mono (by omega))));have hpl5:p<W5.heap.size:=HX5.out.lt;have hl45:w.heap.size+1<W5.heap.size:=HX45.out.lt;have hsm5:=HS5.out.small
      go_wp2_with fail
      go_loopw [35] (fun i wr=>∃ (k:Nat) (v:Value),k≤Ls.length∧i= .int .i64 k∧Hid (Bx wr (w.heap.size+1) 49 [.int .i64 x.const,v])∧Hid (Own kCB 46 (fun _=>False) wr W5.heap.size v ((M.take k).map (kI0 (kAP x.terms))))∧Hid (K2 (w.heap.size+1) (w.heap.size+1) W5 wr)) (fun i _=>Ls.length - (intOf i).toNat)
      case atStart=>exact ⟨0,_,Nat.zero_le _,rfl,HX45,hJ (Own.nil _ _ _ _ _),hJ (K2.refl _ _ _)⟩
      case round =>
       obtain ⟨k,v,hk,rfl,HX,HO,HK⟩:=hrel;have hsz6:=HK.out.size;by_cases hlt:k<Ls.length
       · obtain ⟨b,off,ha5,hbW,hSb⟩:=HS5.out.form k hlt
         cases ha5;have f0:=HS5.out.str k hlt;have f1:wr.cell? ⟨g,0+k,none⟩=some (.string ((M.map mkS).getD k default)):=kDF f0 (fun _=>HK.out.block g hbW (by omega) (by omega));rw [Nat.zero_add] at f1;have hkM:k<M.length:=by rw [HMl.out];exact hlt
         have hgd:(M.map mkS).getD k default=mkS (M.getD k default):=by
          rw [List.getD_eq_getElem?_getD,List.getElem?_map,List.getElem?_eq_getElem hkM,List.getD_eq_getElem?_getD,List.getElem?_eq_getElem hkM];rfl
         rw [hgd] at f1;have HNext:Hid ((M.take (k+1)).map (kI0 (kAP x.terms))=(M.take k).map (kI0 (kAP x.terms))++[⟨mkS (M.getD k default),kAP x.terms (mkS (M.getD k default))⟩]):=hJ (by rw [kBB hkM,List.map_append];rfl);have hlenk:((M.take k).map (kI0 (kAP x.terms))).length≤1000:=by rw [List.length_map,List.length_take];omega
         have HMk:Hid (MapF wr bm n D (kAP x.terms)):=hJ ⟨by
          obtain ⟨es,clock,h1,h2⟩:=HXM5.out.own;exact ⟨es,clock,(HK.out.block bm HXM5.out.lt (by omega) (by omega)).trans h1,h2⟩,HXM5.out.at_⟩
         have HXp:Hid (Bx wr p E0 cs0):=hJ (HK.out.bx HX5.out (by omega) (by omega));have p1:=HXp.out.cell (o+1) _ HC1.out;have z1:=HX.out.cell 1 _ rfl;have zf:=HX.out.fz 1;have hlw:w.heap.size+1<wr.heap.size:=by omega
         have hpw:p<wr.heap.size:=by omega
         have hlk:(Instr.lookup 141 (.map (some bm)) (.string (mkS (M.getD k default))) false).run Tryz.prog wr.drew= .ok (.int .i64 (kAP x.terms (mkS (M.getD k default)))) wr.drew:=(HMk.out.kept (Below.refl _ _).drew).look _ (by
          have h1:kI0 (kAP x.terms) (M.getD k default) ∈ M.map (kI0 (kAP x.terms)):=List.mem_map.2 ⟨_,kAJ hkM,rfl⟩;rw [HTerms.out] at h1;exact Nat.le_trans (HZ.out _ h1) (by decide))
         clear f0 hgd hkM;generalize mkS (M.getD k default)=nm at *;generalize kAP x.terms nm=cc at *;generalize (M.take k).map (kI0 (kAP x.terms))=tl at *
         go_wp2_with fail
         go_region_law (first
          | (refine kJO kET rfl (.tmp 40) (.tmp 49) rfl W5.heap.size v tl rfl ((HO.out.drew).alloc _) _ ⟨nm,cc⟩ [.string nm,.int .i64 cc] rfl rfl (kA6 46 (by (simp only [kAK,kAI,Array.getElem?_push,Array.size_push];simp))) (by omega) (by unfold maxLen;omega) (by simp <;> omega) ?_
             intro v9 w9 hown9 hb9 hk9;obtain ⟨a9,m9,c9,rfl⟩:=hown9.shape
             change Kp v _ _ w9 at hk9
             have HX9:=hJ (((HX.out.drew).alloc _).kp hk9 (HO.out.ne (by omega)));have HP9:=hJ (((HXp.out.drew).alloc _).kp hk9 (HO.out.ne (by omega)));have s1:=HP9.out.cell (o+1) _ HC1.out;have s2:=HX9.out.cell 1 _ rfl;have s3:=HX9.out.fz 1))
         all_goals
          have HKN:Hid (K2 (w.heap.size+1) (w.heap.size+1) W5 (w9.setCell ⟨w.heap.size+1,1,none⟩ (.slice a9 m9 c9))):=hJ ⟨hb9.os.trans HK.out.os,hb9.tape.trans HK.out.tape,hb9.output.trans HK.out.output,by
           have h1:=hb9.size;simp at h1 ⊢;omega,fun k hk h1 _=>(kAB (fun e=>h1 e.symm)).trans ((hb9.block k hk).trans ((by show (wr.heap.push _)[k]? =wr.heap[k]?;rw [Array.getElem?_push,if_neg (by omega)]:(wr.drew.alloc _).heap[k]? =wr.heap[k]?).trans (HK.out.block k hk h1 h1)))⟩
          have HON:Hid (Own kCB 46 (fun _=>False) (w9.setCell ⟨w.heap.size+1,1,none⟩ (.slice a9 m9 c9)) W5.heap.size (.slice a9 m9 c9) ((M.take (k+1)).map (kI0 (kAP x.terms)))):=hJ (by rw [HNext.out];exact hown9.set _ (fun _ q=>q.elim) (by show w.heap.size+1<_;omega))
          go_wp2_with fail
          go_roundw
          case rel=>exact ⟨k+1,_,by omega,by go_num,hJ (HX9.out.set 1 _),HON,HKN⟩
          case measure=>simp [intOf];omega
       · have HTE:Hid ((M.take k).map (kI0 (kAP x.terms))=x.terms):=hJ (by rw [List.take_of_length_le (by rw [HMl.out];omega),HTerms.out])
         rw [HTE.out] at HO;obtain ⟨av,cv,rfl,hsv⟩:=HO.out.sl;have HBw:Hid (Below w.heap.size w wr):=hJ (B0.out.trans ((HB5.out.mono (by omega)).trans ((HK.out.below (B:=w.heap.size) (by omega) (by omega) (by omega)))));have HCV:=hJ (kEK x av _ cv wr hsv HZ.out (EE.out.below HBw.out));have z0:=HX.out.cell 0 _ rfl;have z1:=HX.out.cell 1 _ rfl;have HX2w:=hJ (HK.out.bx HX24.out (by omega) (by omega));have HSv:=hJ hsv;have hl2:w.heap.size<wr.heap.size:=HX2w.out.lt;have HL1:Hid (limL x=if kAC x then x else ⟨0,[]⟩):=hJ rfl;have HL2:Hid (limE x=if kAC x then 0 else 3):=hJ rfl;clear hsv HO;by_cases hv:kAC x=true
         · rw [hv] at HCV
           have HL1:Hid (limL x=x):=hJ (by rw [HL1.out,hv];rfl);have HL2:Hid (limE x=0):=hJ (by rw [HL2.out,hv];rfl);clear hv
           go_wp2_with fail
           refine (HCV.out).mono ?_;rintro e w7 ⟨rfl,hb7⟩;have HX27:=hJ (HX2w.out.below hb7 hl2);have HX47:=hJ (HX.out.below hb7 HX.out.lt);have k0:=HX47.out.cell 0 _ rfl;have k1:=HX47.out.cell 1 _ rfl;have u0:=HX27.out.cell 0 _ rfl;have u1:=HX27.out.cell 1 _ rfl;have u2:=HX27.out.fz 0;have u3:=HX27.out.fz 1;have HX60:=hJ ((HX27.out.set 0 (.int .i64 x.const)).set 1 (.slice av x.terms.length cv));have s0:=HX60.out.cell 0 _ rfl;have s1:=HX60.out.cell 1 _ rfl
           go_wp2_with fail
           refine bodyPost_ret (v:=.tuple #[.agg #[.int .i64 x.const,.slice av x.terms.length cv],.int .i64 0]) (by simp [results,results111,go_sem,s0,s1]) rfl ?_;refine ⟨⟨[.int .i64 x.const,.slice av x.terms.length cv],by rw [HL2.out],?_⟩,?_⟩
           · rw [HL1.out]
             refine ⟨_,rfl,av,cv,rfl,?_⟩;refine ((HSv.out.below hb7).frame fun q hq _=>?_).mono (fun q hq _=>by rcases hq with hq | hq;exact hq.elim;omega);have hq2:W5.heap.size≤q:=by rcases hq with hq | hq;exact hq.elim;exact hq
             rw [kAB (by show w.heap.size≠q;omega),kAB (by show w.heap.size≠q;omega)]
           · exact ((HBw.out.trans (hb7.mono (by omega))).setCell (Nat.le_refl _) _).setCell (Nat.le_refl _) _
         · have hv:kAC x=false:=by simpa using hv
           rw [hv] at HCV;have HL1:Hid (limL x=⟨0,[]⟩):=hJ (by rw [HL1.out,hv];rfl);have HL2:Hid (limE x=3):=hJ (by rw [HL2.out,hv];rfl);clear hv
           go_wp2_with fail
           refine (HCV.out).mono ?_;rintro e w7 ⟨rfl,hb7⟩;have HX27:=hJ (HX2w.out.below hb7 hl2);have u0:=HX27.out.cell 0 _ rfl;have u1:=HX27.out.cell 1 _ rfl;have u2:=HX27.out.fz 0;have u3:=HX27.out.fz 1;have HX60:=hJ ((HX27.out.set 0 (.int .i64 0)).set 1 (.slice none 0 0));have s0:=HX60.out.cell 0 _ rfl;have s1:=HX60.out.cell 1 _ rfl
           go_wp2_with fail
           refine bodyPost_ret (v:=.tuple #[.agg #[.int .i64 0,.slice none 0 0],.int .i64 3]) (by simp [results,results111,go_sem,s0,s1]) rfl ?_;refine ⟨⟨[.int .i64 0,.slice none 0 0],by rw [HL2.out],by rw [HL1.out];exact RLin.zero _ _⟩,((HBw.out.trans (hb7.mono (by omega))).setCell (Nat.le_refl _) _).setCell (Nat.le_refl _) _⟩
  · intro x1 c kl yd yp w2 cnt2 hkey hlk hv hat hrg2 hlt hg2 hs2 hen
    obtain ⟨x',ex,rfl,_⟩:=Maps.keyOf_str underlying9 hkey;obtain rfl:x1=x':=encStr_inj ex;have hws2:w.heap.size+3≤w2.heap.size:=by omega
    have hcv:c=kAP x.terms (mkS x1):=by
     have h1:=HM.out.at_ (mkS x1);have h2:=hat (.lit (.int .i64 0));obtain ⟨a0,e0,e2⟩:=plainElem_int_inv underlying3 hv;cases e0;obtain ⟨e2,_⟩:=e2
     injection e2 with e3 e4
     subst e3;rw [show (mkS x1).data.toList=x1 from rfl] at h1;rw [h1] at h2
     injection h2 with h2
     injection h2 with _ h2
     exact h2.symm
    have HC2:=hJ (HC.out.step hlk hat)
    have HO2:=hJ (HO.out.frame (w':=w2) (fun k hk q=>hg2.block k hk (fun e=>by
     rcases q with q | q
     · exact q.elim
     · have:=HO.out.base_le k q
       cases e;omega)) hg2.size)
    have HB2b:Hid (Below (w.heap.size+2) W w2):=hJ (HB.out.trans ⟨hg2.os,hg2.tape,hg2.output,hg2.size,fun k hk=>hg2.block k (by omega) (fun e=>by cases e;omega)⟩);have hm2:w2.rangeLeft bm W.heap.size<wr.rangeLeft bm W.heap.size:=by rw [hrg2.left_eq,hrg.left_eq];exact hlt
    clear hs2 hkey hv hat hg2 ex;by_cases hz:c=0
    · have hz2:(c != 0)=false:=by rw [hz];rfl
      have HF:Hid ((ss++[x1]).filter (nzK x)=ss.filter (nzK x)):=hJ (by
       rw [List.filter_append,List.filter_cons_of_neg (by unfold nzK;rw [← hcv,hz];decide)];simp)
      clear hz
      go_wp2_with fail
      go_roundw
      case rel=>exact ⟨_,cnt2,ss++[x1],_,rfl,hrg2,HC2,by rw [List.length_append];simp;omega,by rw [HF.out];exact HO2,HB2b,hws2⟩
      case measure=>exact hm2
    · have hz2:(c != 0)=true:=bne_iff_ne.2 hz
      have HF:Hid ((ss++[x1]).filter (nzK x)=ss.filter (nzK x)++[x1]):=hJ (by
       rw [List.filter_append,List.filter_cons_of_pos (by unfold nzK;rw [← hcv];exact hz2)];simp)
      have hfl:((ss.filter (nzK x)).map mkS).length≤1000:=by
       have:=List.length_filter_le (nzK x) ss;rw [List.length_map];omega
      clear hz
      go_wp2_with (at_builtin;refine kA4 kEP rfl _ _ rfl (w.heap.size+3) _ _ rfl (HO2.out.alloc _) _ (mkS x1) [encStr x1] rfl rfl (kA6 9 (by (simp only [kAK,kAI,Array.getElem?_push,Array.size_push];simp))) (by omega) (by unfold maxLen;omega) (by simp;omega) ?_;intro v9 w9 hown9 hb9 hk9;go_frame)
      change Kp v0 _ _ w9 at hk9
      have hg9:w2.grownBy w9 v0.ownBlock:=⟨hb9.os,hb9.tape,hb9.output,by have:=hb9.size;simp at this;omega,fun k hk hne=>(hk9.block k (by simp;omega) (fun e=>hne (by rw [e]))).trans (by show (w2.heap.push _)[k]? =_;rw [Array.getElem?_push,if_neg (by omega)])⟩
      have hnr:∀ q,q<w.heap.size+3→some q≠v0.ownBlock:=fun q hq e=>by have:=HO.out.base_le q e.symm;omega
      have hrg9:=hrg2.kept hg9 (hnr _ (by omega)) (hnr _ (by omega));have HO9:Hid (Own RStr 9 (fun _=>False) w9 (w.heap.size+3) v9 (((ss++[x1]).filter (nzK x)).map mkS)):=hJ (by rw [HF.out,List.map_append];exact hown9);have HB9:Hid (Below (w.heap.size+2) W w9):=hJ ((HB2b.out.alloc (by omega) _).trans (hb9.mono (by omega)));go_roundw
      case rel=>exact ⟨_,cnt2,ss++[x1],_,rfl,hrg9,HC2,by rw [List.length_append];simp;omega,HO9,HB9,by have:=hb9.size;simp at this;omega⟩
      case measure=>rw [hrg9.left_eq,hrg.left_eq];exact hlt
theorem sum_result {w:World} (p bm n:Nat) (D:DataW Unit) (x:Lin) (hs:Srt x.terms) (hz0:Nz x.terms) (hz:szL x) (hBx:Bx w p 143 [.int .i64 x.const,.map (some bm)]) (hM:MapF w bm n D (kAP x.terms)) (hn:n≤1000) (E:Env w) :
 Calls Tryz.prog 111 #[.pointer (some ⟨p,0,none⟩)] w fun e w'=>(∃ ds,e= .returned (.tuple #[.agg ds.toArray,.int .i64 (limE x)])∧RLin.rd (fun k=>w.heap.size≤k) w' ds (limL x))∧Below w.heap.size w w' :=
 kJJ p 0 bm n D x hs hz0 hz hBx rfl rfl hM hn E
open Go.RowKit Go.Maps
theorem linear_Subst_1 {S:Blk} {x:Bnd} {cs:List Value} {w:World} (h:RBnd.rd S w cs x) (name:Str) (p:Nat) (hp:w.cell? ⟨p,0,none⟩=some (.string name)) :
 Calls Tryz.prog 190 #[.agg cs.toArray,.pointer (some ⟨p,0,none⟩)] w fun e w'=>e= .returned (.bool (isB 1 name x))∧Below w.heap.size w w':=by
 obtain ⟨t,d,rfl,⟨a,c,rfl,_⟩,⟨a2,c2,rfl,_⟩⟩:=h;have hpl:=kCR hp;obtain ⟨B0,ya,hW0⟩:=box1 w 114 [.int .i64 x.kind,.string x.v,.int .i64 x.dim.const,.slice a x.dim.terms.length c,.string x.row.row,.slice a2 x.row.dims.length c2,.string x.elem];have xa0:=box0 ya 0 _ rfl;have xa1:=box0 ya 1 _ rfl;have xa2:=box0 ya 2 _ rfl;have xa3:=box0 ya 3 _ rfl;have xa4:=box0 ya 4 _ rfl;have xa5:=box0 ya 5 _ rfl;have xa6:=box0 ya 6 _ rfl;clear ya;have hp:=kAG hp _ B0.out;have HE:Hid (isB 1 name x=(x.kind==1 && (x.v.toList==name.toList))):=hJ rfl;by_cases h1:x.kind=1
 · have q1:(x.kind==1)=true:=beq_iff_eq.2 h1
   clear h1;have HF:Hid (isB 1 name x=(x.v.toList==name.toList)):=hJ (by rw [HE.out,q1];rfl);go_enter func190,ntmps190
   go_wp2_with fail
   go_ret;exact ⟨by rw [HF.out];rfl,B0.out⟩
 · have q1:(x.kind==1)=false:=beq_eq_false_iff_ne.2 h1
   clear h1;have HF:Hid (isB 1 name x=false):=hJ (by rw [HE.out,q1];rfl);go_enter func190,ntmps190
   go_wp2_with fail
   go_ret;exact ⟨by rw [HF.out];rfl,B0.out⟩
theorem sub1_hit {b:List Bnd} {v:Str} (h:0≤kB2 b 1 v):∃ k:Nat,kB2 b 1 v=(k:Int)∧k<b.length∧sub1 b v=(b.getD k default).dim:=by
 unfold kB2 idx at h ⊢;by_cases ha:b.any (isB 1 v)=true
 · rw [if_pos ha] at h ⊢
   refine ⟨b.findIdx (isB 1 v),rfl,(any_hit ha).1,?_⟩;unfold sub1 bndL;rw [if_pos ha,if_pos ha]
 · rw [if_neg ha] at h;omega
theorem sub1_miss {b:List Bnd} {v:Str} (h:kB2 b 1 v<0):sub1 b v=varL v:=by
 unfold sub1;rw [kJ9.1 h];rfl
theorem timesL_var {acc:Lin} (hs:Srt acc.terms) (v:Str) (c:Int):(kG6 acc (varL v) c).const=acc.const∧∀ s,kAP (kG6 acc (varL v) c).terms s=if seq v s then kAP acc.terms v+c else kAP acc.terms s:=by
 refine ⟨by show acc.const+c * 0=_;omega,fun s=>?_⟩
 show kAP (plus acc.terms v (c * 1)) s=_
 rw [plus_coef hs]
 split
 · next q=>rw [(kA3 _ _).1 q];omega
 · omega
theorem kFK {S T:Blk} {x:Lin} {cs:List Value} {w:World} (h:RLin.rd S w cs x) (hv:kAC x=true) (b:List Bnd) (a:Option Addr) (nb cb:Nat) (hbs:Sl RBnd T w a nb cb b) (hg:GoodB b) (E:Env w) :
 Calls Tryz.prog 134 #[.agg cs.toArray,.slice a nb cb] w fun e w'=>(∃ ds,e= .returned (.tuple #[.agg ds.toArray,.int .i64 (limE (kAM b x))])∧RLin.rd (fun k=>w.heap.size≤k) w' ds (limL (kAM b x)))∧Below w.heap.size w w':=by
 have HCV:Hid (∀ W,Below w.heap.size w W→Calls Tryz.prog 85 #[.agg cs.toArray] W fun e w'=>e= .returned (.bool true)∧Below W.heap.size W w') :=
  hJ (fun W hW=>hv ▸ kDU (RLin.below h hW) (lin_sz hv) (E.below hW))
 have HZ:=hJ (subRaw_sz hg hv);obtain ⟨_,rfl,ax,cx,rfl,hsx⟩:=h;have hvp:=kBD hv;have HP:=hJ hvp;have HV:=hJ hv;have HG:=hJ hg;have HSX:=hJ hsx;have HBS:=hJ (hbs.mono (S':=fun q=>q<w.heap.size) (fun k hk hlt=>hlt));have hnb:=hbs.small;have EE:=hJ E;have hmx:=hsx.small;have hlen:=hvp.2.2.2.2.2;clear hsx hbs hvp hv hg E;generalize hnx:x.terms.length=n at *;have HNX:=hJ hnx;clear hnx;obtain ⟨B0,ya,yb,hW0⟩:=box2 w 49 [.int .i64 x.const,.slice ax n cx] 49 [.int .i64 0,.slice none 0 0];have xa0:=box0 ya 0 _ rfl;have xa1:=box0 ya 1 _ rfl;have xb0:=box0 yb 0 _ rfl;have xb1:=box0 yb 1 _ rfl;have bka:Bx _ _ _ _:=ya;have bkb:Bx _ _ _ _:=yb;clear ya yb;have HB4:=hJ bkb;clear bka bkb;have hmf:∀ (fn:Fn) (first cap:Array Value) (w:World),(Instr.makeFunc fn first cap).run Tryz.prog w= .ok (.func fn first cap) w:=fun _ _ _ _=>rfl
 have hmm:= @run_makeMap Tryz.prog;go_enter func134,ntmps134
 go_wp2_with fail
 refine (HCV.out _ B0.out).mono ?_;rintro e w1 ⟨rfl,hb⟩;have y0:=kAG xa0 _ hb;have y1:=kAG xa1 _ hb;have HW:=hJ (B0.out.trans (hb.mono B0.out.size));have HX4:=hJ (HB4.out.below hb HB4.out.lt);have hl4:=HX4.out.lt;have hl2:w.heap.size<w1.heap.size:=by omega
 clear xa0 xa1 xb0 xb1 hb HB4
 go_wp2_with fail
 have hBX0:Hid (Bx ((w1.alloc (.map #[] 0)).alloc (.cells #[.int .i64 x.const,.map (some w1.heap.size)] 143)) (w1.heap.size+1) 143 [.int .i64 x.const,.map (some w1.heap.size)]):=hJ (by
  have h:=Bx.fresh (w1.alloc (.map #[] 0)) 143 [.int .i64 x.const,.map (some w1.heap.size)];have e:(w1.alloc (.map #[] 0)).heap.size=w1.heap.size+1:=by simp
  rw [e] at h;exact h)
 go_loopw [21] (fun i wr=>∃ (j n':Nat) (D':DataW Unit),j≤n∧i= .int .i64 j∧n'≤j * 12∧Hid (Bx wr (w1.heap.size+1) 143 [.int .i64 (kG8 b x.const (x.terms.take j)).const,.map (some w1.heap.size)])∧Hid (MapF wr w1.heap.size n' D' (kAP (kG8 b x.const (x.terms.take j)).terms))∧Hid (Below w1.heap.size w1 wr)) (fun i _=>n - (intOf i).toNat)
 case atStart=>exact ⟨0,0,_,Nat.zero_le _,rfl,Nat.le_refl _,hBX0,hJ ((MapF.made w1).kept ((Below.refl _ _).alloc (Nat.le_refl _) _)),hJ (((Below.refl _ _).alloc (Nat.le_refl _) _).alloc (by simp) _)⟩
 case round =>
  obtain ⟨j,n',D',hj,rfl,hn',HX,HM,HB⟩:=hrel;have hgs:=HX.out.lt;have hms:=HM.out.lt;by_cases hlt:j<n
  · obtain ⟨b0,off,rfl,hbW,_⟩:=HSX.out.form j hlt
    have HBw:=hJ (HW.out.trans (HB.out.mono HW.out.size));obtain ⟨c0,c1⟩:=(HSX.out.below HBw.out).coef j hlt;have HKl:Hid (j<x.terms.length):=hJ (by rw [HNX.out];exact hlt);have HStep:=hJ (subRun_take (b:=b) (c:=x.const) HKl.out);have HOK:=hJ (valid_take HV.out HG.out j (by rw [HNX.out];exact hj));have HN:=hJ (HP.out.2.2.2.1 _ (kAJ HKl.out));have HCb:=hJ (HP.out.2.2.1 _ (kAJ HKl.out));have HS1:=hJ (sub1_valid HG.out HN.out);generalize x.terms.getD j default=t at *;generalize hacc:kG8 b x.const (x.terms.take j)=acc at *;clear hacc;have HBsw:=hJ (HBS.out.below (HBw.out.trans ((Below.refl wr.heap.size wr).alloc (Nat.le_refl _) (.cells #[.string t.v,.int .i64 t.c] 46) |>.mono HBw.out.size)));have HT0:=hJ (Bx.fresh wr 46 [.string t.v,.int .i64 t.c]);have HC:=hJ (index_Bnd b a nb cb _ HBsw.out 190 #[.pointer (some ⟨wr.heap.size,0,none⟩)] (kBG func190 rfl rfl) (isB 1 t.v) (fun W x cs hb _ hr=>linear_Subst_1 hr t.v wr.heap.size (kAG (HT0.out.cell 0 _ rfl) _ hb)));have HFd:Hid (kB2 b 1 t.v=idx (isB 1 t.v) b):=hJ rfl;rw [← HFd.out] at HC;by_cases hq:kB2 b 1 t.v<0
    · have HSel:=hJ (sub1_miss hq)
      generalize kB2 b 1 t.v=q at *
      go_wp2_with fail
      refine (HC.out).mono ?_;rintro e w2 ⟨rfl,hb2⟩;have hA2:Below wr.heap.size wr w2:=((Below.refl _ _).alloc (Nat.le_refl _) _).trans (hb2.mono (by simp));have HX2:=hJ (HX.out.below hA2 hgs);have HM2:=hJ (HM.out.kept hA2);have HT2:=hJ (HT0.out.below hb2 (by simp));have g1:=HX2.out.cell 1 _ rfl;have g0:=HX2.out.cell 0 _ rfl;have t0:=HT2.out.cell 0 _ rfl;have t1:=HT2.out.cell 1 _ rfl;have hnm:t.v.size≤maxLen:=Nat.le_trans (kCP HN.out) (by decide);have hcb:=HCb.out
      have hTb: -9223372036854775808≤kAP acc.terms t.v+t.c∧kAP acc.terms t.v+t.c≤9223372036854775807:=by
       have h1:=kGL (by omega) HOK.out.bd t.v;omega
      have hv2:IntKind.i64.wrap (kAP acc.terms t.v+t.c)=kAP acc.terms t.v+t.c:=by rw [IntKind.wrap_i64];omega
      obtain ⟨hT1,hT2⟩:=hTb;have hl6:=HM2.out.look t.v hnm;obtain ⟨w6,D6,hr6,hM6,hg6⟩:=HM2.out.put (by unfold maxLen;omega) t.v hnm (kAP acc.terms t.v+t.c) ⟨hT1,hT2⟩;have HG6:=hJ (K2.of_grown (p:=w1.heap.size+1) hg6);have HM6:=hJ hM6;have HX6:Hid (Bx w6 (w1.heap.size+1) 143 [.int .i64 acc.const,.map (some w1.heap.size)]):=hJ ((hg6.block _ HX2.out.lt (fun e=>by injection e with e;omega)).trans HX2.out);have HB6:Hid (Below w1.heap.size w1 w6):=hJ ((HB.out.trans (hA2.mono HB.out.size)).trans (HG6.out.below (by omega) (by omega) (by have:=HB.out.size;have:=hA2.size;omega)));have HTv:=hJ (timesL_var HOK.out.srt t.v t.c);clear hM6 hg6 hb2 hA2
      go_wp2_with fail
      go_roundw
      case rel=>exact ⟨j+1,n'+1,D6,by omega,by go_num,by omega,by rw [HStep.out,HSel.out,HTv.out.1];exact HX6,by rw [HStep.out,HSel.out];exact hJ ⟨HM6.out.own,fun s=>by rw [HTv.out.2 s];exact HM6.out.at_ s⟩,HB6⟩
      case measure=>simp [intOf];omega
    · obtain ⟨k,hk,hkl,hsel⟩:=sub1_hit (b:=b) (v:=t.v) (by omega)
      rw [hk] at HC;have hkn:k<nb:=by rw [← HBS.out.len];exact hkl
      clear hq hk HFd;obtain ⟨bb,boff,rfl,hbb,hSb⟩:=HBS.out.form k hkn;have hkn2:(k:Int)<(nb:Int):=by omega
      go_wp2_with fail
      refine (HC.out).mono ?_;rintro e w2 ⟨rfl,hb2⟩;have hA2:Below wr.heap.size wr w2:=((Below.refl _ _).alloc (Nat.le_refl _) _).trans (hb2.mono (by simp));have HW2:=hJ (HBw.out.trans (hA2.mono HBw.out.size));have HX2:=hJ (HX.out.below hA2 hgs);have HM2:=hJ (HM.out.kept hA2);have HT2:=hJ (HT0.out.below hb2 (by simp));obtain ⟨td,dd,hr,⟨⟨ad,cd,rfl,hds⟩,hrd⟩,e0,e1,e2,e3,e4,e5,e6⟩:=(HBS.out.below HW2.out).bnd k hkn;have HHds:=hJ hds;generalize b.getD k default=y at *;have HYv:Hid (kAC y.dim=true):=hJ (hsel ▸ HS1.out);have HCV2:=hJ (kEK y.dim ad _ cd w2 HHds.out (lin_sz HYv.out) (EE.out.below HW2.out));rw [HYv.out] at HCV2;have hA2s:=hJ hA2;clear hr hrd hds hb2 hA2 e0 e1 e4 e5 e6 c0 c1;generalize hLd:y.dim.terms.length=Ld at *
      go_wp2_with fail
      refine (HCV2.out).mono ?_;rintro e w3 ⟨rfl,hb3⟩;have hA3:Below wr.heap.size wr w3:=hA2s.out.trans (hb3.mono hA2s.out.size);have HX3:=hJ (HX2.out.below hb3 HX2.out.lt);have HM3:=hJ (HM2.out.kept hb3);have HT3:=hJ (HT2.out.below hb3 HT2.out.lt);have k2:=kAG e2 _ hb3;have k3:=kAG e3 _ hb3;have k4:=HT3.out.cell 1 _ rfl;have HDs3:=hJ (HHds.out.below hb3);have hbb3:bb<w3.heap.size:=kCR k2;have hT3:=HT3.out.lt
      have HCA:Hid (∀ W',Below w3.heap.size w3 W'→Calls Tryz.prog 191 #[.pointer (some ⟨w1.heap.size+1,0,none⟩),.agg #[.int .i64 y.dim.const,.slice ad Ld cd],.int .i64 t.c] W' fun e w'=>e= .returned (.tuple #[])∧Bx w' (w1.heap.size+1) 143 [.int .i64 (kG6 acc y.dim t.c).const,.map (some w1.heap.size)]∧(∃ n2 D2,n2≤n'+12∧MapF w' w1.heap.size n2 D2 (kAP (kG6 acc y.dim t.c).terms))∧K2 (w1.heap.size+1) w1.heap.size W' w') :=
       hJ (fun W' hW'=>sum_add (S:=fun q=>q<w.heap.size) (y:=y.dim) (cs:=[.int .i64 y.dim.const,.slice ad Ld cd]) ⟨_,rfl,ad,cd,by rw [hLd],by rw [hLd];exact HDs3.out.below hW'⟩ HYv.out _ _ n' D' acc (by omega) HOK.out (HX3.out.below hW' HX3.out.lt) (HM3.out.kept hW') (by omega) t.c HCb.out (fun q hq=>⟨by have:=HW.out.size;omega,by have:=HW.out.size;omega⟩) (by omega))
      have HSelH:Hid (sub1 b t.v=y.dim):=hJ hsel;have hA3s:=hJ hA3;clear hsel hb3 hA3 e2 e3
      go_wp2_with fail
      go_region_held3 (fun w'=>w'.cell? ⟨bb,boff+k * 7+2,none⟩=some (.int .i64 y.dim.const)∧w'.cell? ⟨bb,boff+k * 7+3,none⟩=some (.slice ad Ld cd)∧w'.cell? ⟨wr.heap.size,1,none⟩=some (.int .i64 t.c)) (first | exact ⟨p0,p1,p2⟩ | go_keep) (first
       | (go_at_call 191
          refine (HCA.out _ (by first | exact Below.refl _ _ | exact (Below.refl _ _).drew)).mono ?_;rintro e w4 ⟨rfl,hX4,⟨n2,D2,hn2,hM4⟩,hK4⟩;have p0:w4.cell? ⟨bb,boff+k * 7+2,none⟩=some (.int .i64 y.dim.const):=kDF (show w3.drew.cell? _=_ from k2) (fun _=>hK4.block bb hbb3 (by have:=HW.out.size;omega) (by have:=HW.out.size;omega));have p1:w4.cell? ⟨bb,boff+k * 7+3,none⟩=some (.slice ad Ld cd):=kDF (show w3.drew.cell? _=_ from k3) (fun _=>hK4.block bb hbb3 (by have:=HW.out.size;omega) (by have:=HW.out.size;omega));have p2:w4.cell? ⟨wr.heap.size,1,none⟩=some (.int .i64 t.c):=kDF (show w3.drew.cell? _=_ from k4) (fun _=>hK4.block wr.heap.size hT3 (by omega) (by omega));have HX4':=hJ hX4;have HM4':=hJ hM4;have HK4':=hJ hK4;clear hX4 hM4 hK4))
      all_goals
       have HBN:Hid (Below w1.heap.size w1 w4):=hJ ((HB.out.trans ((hA3s.out.trans (Below.refl _ _).drew).mono HB.out.size)).trans (HK4'.out.below (by omega) (by omega) (by have:=HB.out.size;have:=hA3s.out.size;show w1.heap.size≤w3.heap.size;omega)))
       go_wp2_with fail
       go_roundw
       case rel=>exact ⟨j+1,n2,D2,by omega,by go_num,by omega,by rw [HStep.out,HSelH.out];exact HX4',by rw [HStep.out,HSelH.out];exact HM4',HBN⟩
       case measure=>simp [intOf];omega
  · obtain rfl:j=n:=by omega
    have HEnd:Hid (kG8 b x.const (x.terms.take j)=kAM b x):=hJ (by rw [List.take_of_length_le (by rw [HNX.out];exact Nat.le_refl _)];rfl);have HOK:=hJ (valid_take HV.out HG.out j (by rw [HNX.out];exact Nat.le_refl _));rw [HEnd.out] at HX HM HOK;have HCL:=hJ (sum_result (w:=wr) (w1.heap.size+1) w1.heap.size n' D' (kAM b x) HOK.out.srt HOK.out.nz HZ.out HX.out HM.out (by omega) (EE.out.below (HW.out.trans (HB.out.mono HW.out.size))));have HX40:=hJ (HX4.out.below HB.out hl4)
    go_wp2_with fail
    refine HCL.out.mono ?_;rintro e w5 ⟨⟨_,rfl,hr5⟩,hb5⟩;obtain ⟨_,rfl,a5,c5,rfl,hs5⟩:=hr5;have HX5:=hJ (HX40.out.below hb5 (by omega));have u0:=HX5.out.cell 0 _ rfl;have u1:=HX5.out.cell 1 _ rfl;have u2:=HX5.out.fz 0;have u3:=HX5.out.fz 1;have HX60:=hJ ((HX5.out.set 0 (.int .i64 (limL (kAM b x)).const)).set 1 (.slice a5 (limL (kAM b x)).terms.length c5));have s0:=HX60.out.cell 0 _ rfl;have s1:=HX60.out.cell 1 _ rfl;have HS5:=hJ hs5;clear hs5
    go_wp2_with fail
    refine bodyPost_ret (v:=.tuple #[.agg #[.int .i64 (limL (kAM b x)).const,.slice a5 (limL (kAM b x)).terms.length c5],.int .i64 (limE (kAM b x))]) (by simp [results,results134,go_sem,s0,s1]) rfl ?_;refine ⟨⟨[.int .i64 (limL (kAM b x)).const,.slice a5 (limL (kAM b x)).terms.length c5],rfl,⟨_,rfl,a5,c5,rfl,?_⟩⟩,?_⟩
    · refine (HS5.out.frame fun q hq _=>?_).mono (fun q hq _=>by have:=HW.out.size;omega)
      rw [kAB (by show w.heap.size+1≠q;omega),kAB (by show w.heap.size+1≠q;omega)]
    · exact HW.out.trans ((((HB.out.trans (hb5.mono HB.out.size)).mono HW.out.size).setCell (by show _≤w.heap.size+1;omega) _).setCell (by show _≤w.heap.size+1;omega) _)
theorem kFA:ElemOf Tryz.prog 50 49 RLin.size 32:=⟨by kernel_rfl,by kernel_rfl⟩
theorem nil_eql (w:World):(binOp .eql 47 (.slice none 0 0) (.slice none 0 0)).run Tryz.prog w= .ok (.bool true) w:=by kernel_rfl
theorem some_eql (w:World) (ad:Addr) (n c:Nat):(binOp .eql 47 (.slice (some ad) n c) (.slice none 0 0)).run Tryz.prog w= .ok (.bool false) w:=by kernel_rfl
theorem slices_Clone {S:Blk} (l:List Coef) (a:Option Addr) (n c:Nat) (w:World) (h:Sl kCB S w a n c l) (hn:n≤1000000) :
 Calls Tryz.prog 258 #[.slice a n c] w fun e w'=>(∃ v,e= .returned v∧SlV kCB (fun k=>w.heap.size≤k) w' v l)∧Below w.heap.size w w':=by
 have HL:=hJ h.len;cases a with
 | none =>
   have h0:=h.nil rfl;have h1:=h.cap;subst h0;have h2:n=0:=by omega
   subst h2;have hl:l=[]:=List.eq_nil_of_length_eq_zero HL.out;subst hl;have hq:=nil_eql;go_enter func258,ntmps258
   go_wp2_with fail
   go_ret;exact ⟨⟨_,rfl,none,0,rfl,Sl.empty _ _ _⟩,Below.refl _ _⟩
 | some ad =>
   have HS:=hJ h;clear h;have hq:=fun w=>some_eql w ad n c
   have h0:∀ k,(Value.slice (some ⟨w.heap.size,0,none⟩) 0 0).ownBlock=some k→w.heap.size≤k:=by intro k e;simp [Value.ownBlock] at e;omega
   go_enter func258,ntmps258
   go_wp2_with (at_builtin;refine app_sl kET rfl _ _ rfl w.heap.size _ [] l rfl (Own.at0 kCB _ S (by (simp only [kAK,kAI,Array.getElem?_push,Array.size_push];simp)) (Nat.le_refl _)) (some ad) _ c rfl (HS.out.later ((Below.refl _ _).alloc (Nat.le_refl _) _) h0) (by simp;omega) (by unfold maxLen;simp;omega) (by simp) ?_;intro v9 w9 hown9 hb9 hk9)
   go_ret;refine ⟨⟨v9,rfl,?_⟩,((Below.refl _ _).alloc (Nat.le_refl _) _).trans hb9⟩;rw [List.nil_append] at hown9;obtain ⟨a9,c9,rfl,hs9⟩:=hown9.sl;refine ⟨a9,c9,rfl,hs9.selfCoef.mono (fun k hk _=>hown9.base_le k (at_own hk))⟩
theorem shape_clones {S:Blk} (l:List Lin) (a:Option Addr) (n c:Nat) (w:World) (h:Sl RLin S w a n c l) (hn:n≤1000) (hl:∀ x ∈ l,x.terms.length≤1000) :
 Calls Tryz.prog 227 #[.slice a n c] w fun e w'=>(∃ v,e= .returned v∧Own RLin 49 (fun k=>w.heap.size≤k) w' w.heap.size v l)∧Below w.heap.size w w':=by
 have H:=hJ h;have HLs:=hJ hl;have HL:=hJ h.len;have hm:=h.small;clear h hl;go_enter func227,ntmps227
 go_wp2_with fail
 go_loopw [3,8] (fun v i wr=>∃ (k:Nat) (v0:Value),k≤n∧i= .int .i64 k∧v0=v∧Hid (Own RLin 49 (fun k=>w.heap.size≤k) wr w.heap.size v (l.take k))∧Below w.heap.size w wr) (fun _ i _=>n - (intOf i).toNat)
 case atStart=>exact ⟨0,_,Nat.zero_le _,rfl,rfl,hJ (Own.nil _ _ _ _ _),Below.refl _ _⟩
 case round =>
  obtain ⟨k,v0,hk,rfl,rfl,HO,hB⟩:=hrel;by_cases hlt:k<n
  · obtain ⟨b,off,rfl,hbW,_⟩:=H.out.form k hlt
    obtain ⟨t,hr,⟨at_,ct,rfl,hts⟩,c0,c1⟩:=(H.out.below hB).lin k hlt;have HK:Hid (k<l.length):=hJ (by rw [HL.out];exact hlt);have HNext:Hid (l.take (k+1)=l.take k++[l.getD k default]):=hJ (kBB HK.out);have hkl:(l.take k).length=k:=by rw [List.length_take,HL.out];omega
    have hxl:=HLs.out _ (kAJ HK.out);have HTs:=hJ hts;clear hr hts;generalize l.getD k default=x at *;generalize l.take k=lk at *;have HC:=hJ (fun (W':World) (hW':Below wr.heap.size wr W')=>slices_Clone x.terms at_ _ ct W' (HTs.out.below hW') (by omega));generalize hxL:x.terms.length=L at *;have HXL:=hJ hxL;clear hxL
    go_wp2_with fail
    have hA:Below wr.heap.size wr (wr.alloc (.cells #[.int .i64 x.const,.slice at_ L ct] 49)):=(Below.refl _ _).alloc (Nat.le_refl _) _;have HT0:=hJ (Bx.fresh wr 49 [.int .i64 x.const,.slice at_ L ct]);have g0:=HT0.out.cell 0 _ rfl;have g1:=HT0.out.cell 1 _ rfl
    go_region_held3 (fun w'=>w'.cell? ⟨wr.heap.size,0,none⟩=some (.int .i64 x.const)∧w'.cell? ⟨wr.heap.size,1,none⟩=some (.slice at_ L ct)) (first | exact ⟨s0,s1⟩ | exact ⟨r0,r1⟩ | go_keep) (first
     | (go_at_call 258
        refine (HC.out _ (by first | exact hA.trans (Below.refl _ _) | exact hA.trans (Below.refl _ _).drew | exact (hA.drew))).mono ?_;rintro e w5 ⟨⟨_,rfl,a5,c5,rfl,hs5⟩,hb5⟩;have r0:w5.cell? ⟨wr.heap.size,0,none⟩=some (.int .i64 x.const):=(hb5.cell (by simp)).trans g0;have r1:w5.cell? ⟨wr.heap.size,1,none⟩=some (.slice at_ L ct):=(hb5.cell (by simp)).trans g1)
     | (refine kJO kFA rfl (.tmp 12) (.tmp 19) rfl w.heap.size _ _ rfl ((HO.out.below (hA.drew.trans (hb5.mono (by simp)))).alloc _) _ x [.int .i64 x.const,.slice a5 x.terms.length c5] rfl ?ry (kA6 49 (by (simp only [kAK,kAI,Array.getElem?_push,Array.size_push];simp))) (by omega) (by unfold maxLen;omega) (by have h1:=hb5.size;have h2:=hB.size;simp at h1 ⊢;omega) ?_
        case ry=>exact ⟨_,rfl,a5,c5,rfl,(hs5.below ((Below.refl _ _).alloc (Nat.le_refl _) _)).mono (fun q hq _=>by
         have hq:wr.heap.size+1≤q:=by simpa using hq
         refine ⟨by have:=hB.size;omega,fun e=>?_⟩;have:=(HO.out.block e).2;omega)⟩
        intro v9 w9 hown9 hb9 hk9
        change Kp v0 _ _ w9 at hk9
        have s0:w9.cell? ⟨wr.heap.size,0,none⟩=some (.int .i64 x.const):=kDF (kAG r0 _ ((Below.refl _ _).alloc (Nat.le_refl _) _)) (fun hl=>hk9.block _ hl (fun e=>absurd (HO.out.block e).2 (Nat.lt_irrefl _)));have s1:w9.cell? ⟨wr.heap.size,1,none⟩=some (.slice at_ L ct):=kDF (kAG r1 _ ((Below.refl _ _).alloc (Nat.le_refl _) _)) (fun hl=>hk9.block _ hl (fun e=>absurd (HO.out.block e).2 (Nat.lt_irrefl _)))))
    all_goals
     have HBN:Hid (Below w.heap.size w w9):=hJ ((hB.trans ((hA.drew.trans (hb5.mono (by simp))).mono hB.size)).trans ((((Below.refl _ _).alloc (by have h1:=hb5.size;have h2:=hB.size;simp at h1 ⊢;omega) _)).trans hb9))
     go_wp2_with fail
     go_roundw
     case rel=>exact ⟨k+1,_,by omega,by go_num,rfl,hJ (by rw [HNext.out];exact hown9),HBN.out⟩
     case measure=>simp [intOf];omega
  · have HAll:Hid (l.take k=l):=hJ (List.take_of_length_le (by rw [HL.out];omega))
    go_wp2_with fail
    go_ret;exact ⟨⟨_,rfl,by rw [← HAll.out];exact HO.out⟩,hB⟩
theorem elemLin_zero:∃ z:Value,(∀ w,(zeroValue 49).run Tryz.prog w= .ok z w)∧z.cells.size=2∧∀ v ∈ z.cells.toList,v.oneCell'=true:=⟨.agg #[.int .i64 0,.slice none 0 0],fun w=>by kernel_rfl,rfl,by intro v hv;simp [Value.cells] at hv;rcases hv with rfl | rfl <;> rfl⟩
theorem kJR (w:World) (g o n c:Nat) (hn:0<n) (hc:∀ j,j<n * 2→(w.cell? ⟨g,o+j,none⟩).isSome=true) (hf:∀ j,j<n * 2→w.frozen? ⟨g,o+j,none⟩=false) :
 ∃ vs:List Value,∀ ty:TypeId,(Builtin.clear_ #[50] ty #[.slice (some ⟨g,o,none⟩) n c]).run Tryz.prog w= .ok (.tuple #[]) (w.setCells g o vs):=by
 obtain ⟨z,hz,hs,h1⟩:=elemLin_zero;have hlen:(Builtin.zeroCells z.cells n).toList.length=n * 2:=by simp [Builtin.zeroCells,hs]
 have hone:∀ v ∈ (Builtin.zeroCells z.cells n).toList,v.oneCell'=true:=fun v hv=>by
  simp only [Builtin.zeroCells,Array.toList_map,List.mem_map] at hv;obtain ⟨i,_,rfl⟩:=hv;have hlt:i % z.cells.size<z.cells.size:=Nat.mod_lt _ (by omega);rw [getElem!_pos z.cells _ hlt];exact h1 _ (by rw [← Array.getElem_toList];exact List.getElem_mem _)
 have hst:=run_storeCells_cells (P:=Tryz.prog) g o (Builtin.zeroCells z.cells n).toList 0 w (by rw [hlen];simpa using hc) (by rw [hlen];simpa using hf) hone;simp only [Nat.add_zero] at hst;obtain ⟨m,rfl⟩:∃ m,n=m+1:=⟨n - 1,by omega⟩
 exact ⟨_,fun ty=>by simp [Builtin.clear_,run_underlying underlying50,hz,hst];rfl⟩
theorem Raw.some_cell {k:Nat} {E:TypeId} {w:World} {g:Nat} {css:List (List Value)} {rest:List Value} (h:Raw k E w g css rest) {o:Nat} (ho:o<css.length * k+rest.length):(w.cell? ⟨g,o,none⟩).isSome=true:=by
 have hl:o<(css.flatten++rest).length:=by rw [List.length_append,kBQ h.len];exact ho
 rw [h.bx.cell o _ (List.getElem?_eq_getElem hl)];rfl
theorem keep_filter (p:Lin→Bool) (l:List Lin):kept (fun i=> !p (l.getD i default)) l l.length=l.filter (fun x=> !p x):=by
 have:=kept_filter (fun x=> !p x) l l.length (Nat.le_refl _)
 rwa [List.take_length] at this
theorem delete_Lin {S:Blk} {w:World} {base:Nat} {v:Value} {l:List Lin} (h:Own RLin 49 S w base v l) (hbase:base≤w.heap.size) (hn:l.length≤1000) (g:FuncId) (hen:Ent1 g) (p:Lin→Bool)
 (hp:∀ (S':Blk) (W:World) (x:Lin) (cs:List Value),RLin.rd S' W cs x→Calls Tryz.prog g #[.agg cs.toArray] W fun e w'=>e= .returned (.bool (p x))∧Below W.heap.size W w') :
 Calls Tryz.prog 73 #[v,.func (.func g) #[] #[]] w fun e w'=>(∃ v',e= .returned v'∧Own RLin 49 S w' base v' (l.filter (fun x=> !p x))∧Kl v v' w w')∧Below base w w':=by
 obtain ⟨a,c,rfl,hsl⟩:=h.sl;have HIx:=hJ (index_Lin l a l.length c w hsl g #[] hen p (fun W x cs hb _ hr=>hp _ W x cs hr));by_cases hany:l.any p=true
 case neg =>
  have hidx:idx p l= -1:=by unfold idx;rw [if_neg hany]
  have HF:Hid (l.filter (fun x=> !p x)=l):=hJ (by
   rw [List.filter_eq_self];intro x hx;have:l.any p=false:=by simpa using hany
   rw [List.any_eq_false] at this
   simpa using this x hx)
  rw [hidx] at HIx;have HO:=hJ h;clear h hsl hany hidx hp;generalize hln:l.length=n at *;go_enter func73,ntmps73
  go_wp2_with fail
  refine HIx.out.mono ?_;rintro e w1 ⟨rfl,hb1⟩
  go_wp2_with fail
  go_ret;exact ⟨⟨_,rfl,by rw [HF.out];exact HO.out.below hb1,Kl.below hb1⟩,hb1.mono hbase⟩
 obtain ⟨hi0,hpi0⟩:=any_hit hany
 have hbef:∀ j,j<l.findIdx p→p (l.getD j default)=false:=fun j hj=>by
  have:=List.not_of_lt_findIdx hj;rw [List.getD_eq_getElem?_getD,List.getElem?_eq_getElem (by omega)]
  simpa using this
 have hidx:idx p l=(l.findIdx p:Int):=by unfold idx;rw [if_pos hany]
 rw [hidx] at HIx;generalize l.findIdx p=i0 at *;have hl:0<l.length:=by omega
 have hk0:KeepAt (fun i=> !p (l.getD i default)) l l i0:=KeepAt.same (by omega) (fun j hj=>by show (!p _)=true;rw [hbef j hj];rfl);have hk1:=hk0.skip (by show (!p (l.getD i0 default))=false;rw [hpi0];rfl)
 have hkl:(kept (fun i=> !p (l.getD i default)) l (i0+1)).length=i0:=by
  rw [kCH,if_neg (by rw [hpi0];decide),kept_all _ _ _ (by omega) (fun j hj=>by show (!p _)=true;rw [hbef j hj];rfl),List.length_take];omega
 have HK0:=hJ hk1;have HKl:=hJ hkl;obtain ⟨gb,c2,css0,rest0,hv,hgb,hR,hL,hlc,hcm,hsz⟩:=h.raw hl;rw [Value.slice.injEq] at hv;obtain ⟨rfl,-,rfl⟩:=hv;have HR0:=hJ hR;have HL0:=hJ hL;have HS0:=hJ hsz;have HP:=hJ hp;have HFin:=hJ (keep_filter p l);have hgl:=hR.lt;clear h hsl hany hidx hbef hk0 hk1 hkl hR hL hsz hp hpi0;generalize hln:l.length=n at *;have HN:=hJ hln;clear hln;go_enter func73,ntmps73
 go_wp2_with fail
 refine HIx.out.mono ?_;rintro e w1 ⟨rfl,hb1⟩;have hne:((i0:Int)== -1)=false:=beq_eq_false_iff_ne.2 (by omega);have HR1:=hJ (HR0.out.below hb1 hgl);have HL1:=hJ (HL0.out.below hb1);have hB1:=(Kb.refl gb w).later hb1;clear HIx
 go_wp2_with fail
 go_loopw [5,6] (fun iv jv wr=>∃ (j k:Nat) (M:List Lin) (css:List (List Value)) (rest:List Value),j≤n∧k<j∧iv= .int .i64 k∧jv= .int .i64 j∧Hid ((kept (fun i=> !p (l.getD i default)) l j).length=k)∧Hid (KeepAt (fun i=> !p (l.getD i default)) l M j)∧Hid (Raw 2 49 wr gb css rest)∧Hid (Lies RLin S wr gb css M)∧Hid (css.length * 2+rest.length=c * 2)∧Kb gb w wr) (fun _ jv _=>n - (intOf jv).toNat)
 case atStart=>exact ⟨i0+1,i0,_,_,_,by omega,by omega,rfl,by go_num,HKl,HK0,HR1,HL1,HS0,hB1⟩
 case round =>
  obtain ⟨j,k,M,css,rest,hj,hk,rfl,rfl,HKl,HK,HR,HL,HS,hB⟩:=hrel;have HMl:Hid (M.length=n):=hJ (by rw [HK.out.len];exact HN.out);have hsz:=hB.size;by_cases hlt:j<n
  · have hjM:j<M.length:=by rw [HMl.out];exact hlt
    obtain ⟨csx,hix,hrx⟩:=HL.out.at_ hjM;rw [HK.out.at_ j (Nat.le_refl _)] at hrx;have HSk:Hid (p (l.getD j default)=true→KeepAt (fun i=> !p (l.getD i default)) l M (j+1)∧(kept (fun i=> !p (l.getD i default)) l (j+1)).length=k):=hJ (fun q=>⟨HK.out.skip (by show (!p _)=false;rw [q];rfl),by rw [kCH,if_neg (by rw [q];decide)];exact HKl.out⟩);have HPt:Hid (p (l.getD j default)=false→KeepAt (fun i=> !p (l.getD i default)) l (M.set k (l.getD j default)) (j+1)∧(kept (fun i=> !p (l.getD i default)) l (j+1)).length=k+1):=hJ (fun q=>⟨by have:=HK.out.put (by rw [HN.out];exact hlt) (by show (!p _)=true;rw [q];rfl);rwa [HKl.out] at this,by rw [kCH,if_pos (by rw [q];rfl),List.length_append,HKl.out];rfl⟩);have hcl:css.length=n:=by rw [HL.out.1];exact HMl.out
    have hkM:k<M.length:=by omega
    obtain ⟨csk,hik,hrk⟩:=HL.out.at_ hkM;obtain ⟨_,rfl,ak,ck,rfl,_⟩:=hrk;have HIK:=hJ hik;have HCl:=hJ hcl;clear hik hcl hkM;generalize l.getD j default=x at *;obtain ⟨_,rfl,ax,cx,rfl,hsx⟩:=hrx;have x0:=HR.out.cell hix 0 _ rfl;have x1:=HR.out.cell hix 1 _ rfl;rw [Nat.add_zero] at x0;have HX:=hJ (⟨_,rfl,ax,cx,rfl,hsx⟩:RLin.rd (fun q=>S q∧q≠gb) wr [.int .i64 x.const,.slice ax x.terms.length cx] x);clear hix hsx hjM;have HA:Hid (Below wr.heap.size wr (wr.alloc (.cells #[.int .i64 x.const,.slice ax x.terms.length cx] 49))):=hJ ((Below.refl _ _).alloc (Nat.le_refl _) _);have HC:=hJ (HP.out _ _ x _ (RLin.below HX.out HA.out));have HBx:=hJ (Bx.fresh wr 49 [.int .i64 x.const,.slice ax x.terms.length cx]);generalize M.getD k default=y at *;cases hpx:p x with
    | true =>
      rw [hpx] at HC;have HSk:=hJ (HSk.out hpx);clear hpx HPt
      go_wp2_with (go_at_fn g;refine HC.out.mono ?_;rintro e w4 ⟨rfl,hb4⟩)
      have HB4:=hJ (HA.out.trans (hb4.mono HA.out.size));go_roundw
      case rel=>exact ⟨j+1,k,M,css,rest,by omega,by omega,rfl,by go_num,hJ HSk.out.2,hJ HSk.out.1,hJ (HR.out.below HB4.out HR.out.lt),hJ (HL.out.below HB4.out),HS,hB.later HB4.out⟩
      case measure=>simp [intOf];omega
    | false =>
      rw [hpx] at HC;have HPt:=hJ (HPt.out hpx);clear hpx HSk;have hkn:(k:Int)<(n:Int):=by omega
      go_wp2_with (go_at_fn g;refine HC.out.mono ?_;rintro e w4 ⟨rfl,hb4⟩;have HB4:=hJ (HA.out.trans (hb4.mono HA.out.size));have HR4:=hJ (HR.out.below HB4.out HR.out.lt);have k0:=HR4.out.cell HIK.out 0 _ rfl;have k1:=HR4.out.cell HIK.out 1 _ rfl;rw [Nat.add_zero] at k0;have f0:=HR4.out.fz (k * 2);have f1:=HR4.out.fz (k * 2+1);have HP4:=hJ (HBx.out.below hb4 (by simp));have p0:=HP4.out.cell 0 _ rfl;have p1:=HP4.out.cell 1 _ rfl)
      go_roundw
      case rel=>exact ⟨j+1,k+1,M.set k x,_,rest,by omega,by omega,by go_num,by go_num,hJ HPt.out.2,hJ HPt.out.1,hJ (HR4.out.put2 (i:=k) (by rw [HCl.out];omega) _ _),hJ ((((HL.out.below HB4.out).self _ _).self _ _).set k (RLin.frame (RLin.below HX.out HB4.out) (fun q hq _=>(kAB (fun e=>hq.2 e.symm)).trans (kAB (fun e=>hq.2 e.symm))))),hJ (by rw [List.length_set];exact HS.out),((hB.later HB4.out).set _ _).set _ _⟩
      case measure=>simp [intOf];omega
  · obtain rfl:j=n:=by omega
    have hcl:css.length=j:=by rw [HL.out.1];exact HMl.out
    obtain ⟨vs,hclr⟩:=kJR wr gb (k * 2) (j - k) (c - k) (by omega) (fun i hi=>HR.out.some_cell (by rw [hcl];have:=HS.out;omega)) (fun i hi=>HR.out.fz _);obtain ⟨rest',hR',hr'⟩:=Raw.setCells vs (HR.out.take k) (o:=k * 2) (by rw [List.length_take];omega);have HR':=hJ hR';have HFk:Hid (M.take k=l.filter (fun x=> !p x)):=hJ (by rw [← HKl.out,HK.out.front];exact HFin.out);have HFl:Hid ((l.filter (fun x=> !p x)).length=k):=hJ (by rw [← HFk.out,List.length_take,HMl.out];omega);have HL':Hid (Lies RLin S (wr.setCells gb (k * 2) vs) gb (css.take k) (l.filter (fun x=> !p x))):=hJ (by rw [← HFk.out];exact (HL.out.take k).frame (fun q _ hne _=>kGR gb vs wr _ q hne))
    have HS':Hid ((css.take k).length * 2+rest'.length=c * 2):=hJ (by
     have h1:=HS.out;rw [hr',List.length_append,kBQ (m:=2) (fun cs hc=>HR.out.len cs (List.mem_of_mem_drop hc)),List.length_drop,List.length_take];omega)
    have hkc:¬c=k:=by omega
    clear hR' hr' hcl
    go_wp2_with fail
    go_ret;have hO:=HR'.out.own HL'.out hgb (by rw [HFl.out];omega) hcm HS'.out;rw [HFl.out] at hO;exact ⟨⟨_,rfl,hO,(Kb.sets vs hB _).kl _ _ _ _⟩,(Kb.sets vs hB _).below hgb hbase⟩
theorem kept_small {α :Type} [Inhabited α] (eq: α → α →Bool) (l:List α) (h:l.length<2):kept (newB eq l) l l.length=l:=by
 match l,h with
 | [],_=>rfl
 | [a],_=>rfl
theorem newB_at {α :Type} [Inhabited α] {eq: α → α →Bool} {l:List α} {k:Nat} (h:0<k):newB eq l k= !eq (l.getD k default) (l.getD (k - 1) default):=by
 unfold newB;rw [show (k==0)=false by simpa using Nat.pos_iff_ne_zero.1 h];rfl
theorem compact_Lin {S:Blk} {w:World} {base:Nat} {v:Value} {l:List Lin} (h:Own RLin 49 S w base v l) (hbase:base≤w.heap.size) (hn:l.length≤1000) (g:FuncId) (hen:Ent1 g) (eq:Lin→Lin→Bool)
 (hp:∀ (S' T':Blk) (W:World) (x y:Lin) (cs ds:List Value),RLin.rd S' W cs x→RLin.rd T' W ds y→Calls Tryz.prog g #[.agg cs.toArray,.agg ds.toArray] W fun e w'=>e= .returned (.bool (eq x y))∧Below W.heap.size W w') :
 Calls Tryz.prog 78 #[v,.func (.func g) #[] #[]] w fun e w'=>(∃ v',e= .returned v'∧Own RLin 49 S w' base v' (kept (newB eq l) l l.length)∧Kl v v' w w')∧Below base w w':=by
 by_cases h2:l.length<2
 · have HF:=hJ (kept_small eq l h2)
   have HO:=hJ h;obtain ⟨a,m,c,rfl⟩:=h.shape;obtain ⟨_,_,q,_⟩:=h.sl;rw [Value.slice.injEq] at q;obtain ⟨-,rfl,-⟩:=q;clear h;generalize hln:l.length=n at *;have h3:(n:Int)<2:=by omega
   go_enter func78,ntmps78
   go_wp2_with fail
   go_ret;exact ⟨⟨_,rfl,by rw [HF.out];exact HO.out,Kl.refl _ _⟩,Below.refl _ _⟩
 have hl:0<l.length:=by omega
 obtain ⟨gb,c,css0,rest0,rfl,hgb,hR,hL,hlc,hcm,hsz⟩:=h.raw hl;have HR0:Hid (Raw 2 49 w gb css0 rest0):=hJ hR;have HL0:=hJ hL;have HS0:Hid (css0.length * 2+rest0.length=c * 2):=hJ hsz;have HP:=hJ hp;have HO:=hJ h;have hgl:=hR.lt;clear h hR hL hsz hp;generalize hln:l.length=n at *;have HN:=hJ hln;clear hln;have h3:¬(n:Int)<2:=by omega
 go_enter func78,ntmps78
 go_wp2_with fail
 have HT0:Hid (∀ i,i<1→newB eq l i=true):=hJ (fun i hi=>(show i=0 by omega) ▸ rfl)
 go_loopw [5] (fun kv wr=>∃ k:Nat,1≤k∧k≤n∧kv= .int .i64 k∧Hid (∀ i,i<k→newB eq l i=true)∧Below w.heap.size w wr) (fun kv _=>n - (intOf kv).toNat)
 case atStart=>exact ⟨1,Nat.le_refl _,by omega,rfl,HT0,Below.refl _ _⟩
 case round =>
  obtain ⟨k,hk1,hkn,rfl,HT,hB⟩:=hrel;have HR:=hJ (HR0.out.below hB hgl);have HL:=hJ (HL0.out.below hB);by_cases hlt:k<n
  · obtain ⟨kp,rfl⟩:∃ kp,k=kp+1:=⟨k - 1,by omega⟩
    obtain ⟨csx,hix,hrx⟩:=HL.out.at_ (i:=kp+1) (by rw [HN.out];exact hlt);obtain ⟨csa,hia,hra⟩:=HL.out.at_ (i:=kp) (by rw [HN.out];omega);have HC:=hJ (fun (t:Later wr)=>HP.out _ _ t.w _ _ csx csa (RLin.below hrx t.b) (RLin.below hra t.b));have HNw:Hid (newB eq l (kp+1)= !eq (l.getD (kp+1) default) (l.getD kp default)):=hJ (newB_at (by omega));obtain ⟨_,rfl,ax,cx,rfl,hsx⟩:=hrx;obtain ⟨_,rfl,aa,ca,rfl,hsa⟩:=hra;have x0:=HR.out.cell hix 0 _ rfl;have x1:=HR.out.cell hix 1 _ rfl;have a0:=HR.out.cell hia 0 _ rfl;have a1:=HR.out.cell hia 1 _ rfl;rw [Nat.add_zero] at x0 a0;have X0:=Later.cell x0;have X1:=Later.cell x1;have A0:=Later.cell a0;have A1:=Later.cell a1;have hki:(((kp+1:Nat):Int) - 1)=(kp:Int):=by omega
    have hkz:(kp:Int)+1<(n:Int):=by omega
    have hkz0:(kp:Int)<(n:Int):=by omega
    clear x0 x1 a0 a1 hix hia hsx hsa;generalize l.getD (kp+1) default=x at *;generalize l.getD kp default=a at *;cases hq:eq x a with
    | false =>
      rw [hq] at HC;have HNw2:newB eq l (kp+1)=true:=by rw [HNw.out,hq];rfl
      have HT2:Hid (∀ i,i<kp+1+1→newB eq l i=true):=hJ (upto HT.out HNw2);clear HNw2;clear hq
      go_wp2_with fail
      refine kAA (by kernel_rfl) (by kernel_rfl) ?_
      repeat (go_big_quiet_step (first | fail | exact Later.call (HC.out _)))
      refine wpQuiet_nil ?_;rintro _ ⟨t9,rfl⟩;have HBq:Hid (Below wr.heap.size wr t9.w):=hJ t9.b;generalize t9.w=wq at *
      go_wp2_with fail
      go_roundw
      case rel=>exact ⟨kp+1+1,by omega,by omega,by go_num,HT2,hB.trans (HBq.out.mono hB.size)⟩
      case measure=>simp [intOf];omega
    | true =>
      rw [hq] at HC;have HNw:Hid (newB eq l (kp+1)=false):=hJ (by rw [HNw.out,hq];rfl);clear hq
      go_wp2_with fail
      refine kAA (by kernel_rfl) (by kernel_rfl) ?_
      repeat (go_big_quiet_step (first | fail | exact Later.call (HC.out _)))
      refine wpQuiet_nil ?_;rintro _ ⟨t9,rfl⟩;have HBq:Hid (Below wr.heap.size wr t9.w):=hJ t9.b;generalize t9.w=wq at *;clear X0 X1 A0 A1 HC;have HK0:Hid (KeepAt (newB eq l) l l (kp+1)):=hJ (KeepAt.same (by rw [HN.out];omega) HT.out);have HKl0:Hid ((kept (newB eq l) l (kp+1)).length=kp+1):=hJ (by rw [kept_all _ _ _ (by rw [HN.out];omega) HT.out,List.length_take,HN.out];omega);have HK1:=hJ (HK0.out.skip HNw.out);have HKl1:Hid ((kept (newB eq l) l (kp+1+1)).length=kp+1):=hJ (by rw [kCH,if_neg (by rw [HNw.out];decide)];exact HKl0.out);have HR1:=hJ (HR.out.below HBq.out HR.out.lt);have HL1:=hJ (HL.out.below HBq.out);have hB1:Kb gb w wq:=(Kb.refl gb w).later (hB.trans (HBq.out.mono hB.size));have hkc:¬c=kp+1:=by omega
      clear HK0 HKl0 HNw HT HR HL HO
      go_wp2_with fail
      go_loopw [5,7] (fun kv jv wr=>∃ (kk j2:Nat) (M:List Lin) (css:List (List Value)) (rest:List Value),1≤j2∧kp+1+j2≤n∧kk<kp+1+j2∧kv= .int .i64 kk∧jv= .int .i64 j2∧Hid ((kept (newB eq l) l (kp+1+j2)).length=kk)∧Hid (KeepAt (newB eq l) l M (kp+1+j2))∧Hid (M.getD (kp+j2) default=l.getD (kp+j2) default)∧Hid (Raw 2 49 wr gb css rest)∧Hid (Lies RLin S wr gb css M)∧Hid (css.length * 2+rest.length=c * 2)∧Kb gb w wr) (fun _ jv _=>n - (intOf jv).toNat)
      case atStart=>exact ⟨kp+1,1,_,_,_,Nat.le_refl _,by omega,by omega,by go_num,rfl,HKl1,HK1,hJ rfl,HR1,HL1,HS0,hB1⟩
      case round =>
       clear HK1 HKl1 HR1 HL1 hB1 HBq hB;obtain ⟨kk,j2,M,css,rest,hj1,hjn,hkk,rfl,rfl,HKl,HK,HPr,HR,HL,HS,hB⟩:=hrel;have HMl:Hid (M.length=n):=hJ (by rw [HK.out.len];exact HN.out);have hsz:=hB.size;have hgl:=HR.out.lt;by_cases hlj:kp+1+j2<n
       · obtain ⟨jp,rfl⟩:∃ jp,j2=jp+1:=⟨j2 - 1,by omega⟩
         obtain ⟨csx,hix,hrx⟩:=HL.out.at_ (i:=kp+1+(jp+1)) (by rw [HMl.out];exact hlj);obtain ⟨csa,hia,hra⟩:=HL.out.at_ (i:=kp+1+jp) (by rw [HMl.out];omega);obtain ⟨csk,hik,hrk⟩:=HL.out.at_ (i:=kk) (by rw [HMl.out];omega);rw [HK.out.at_ _ (Nat.le_refl _)] at hrx;rw [show kp+1+jp=kp+(jp+1) by omega,HPr.out] at hra;have HX:=hJ hrx;have HC:=hJ (fun (t:Later wr)=>HP.out _ _ t.w _ _ csx csa (RLin.below hrx t.b) (RLin.below hra t.b))
         have HNw:Hid (newB eq l (kp+1+(jp+1))= !eq (l.getD (kp+1+(jp+1)) default) (l.getD (kp+(jp+1)) default)):=hJ (by
          rw [newB_at (by omega),show kp+1+(jp+1) - 1=kp+(jp+1) by omega])
         have HSk:Hid (newB eq l (kp+1+(jp+1))=false→KeepAt (newB eq l) l M (kp+1+(jp+1+1))∧(kept (newB eq l) l (kp+1+(jp+1+1))).length=kk):=hJ (fun q=>⟨HK.out.skip q,by
          rw [show kp+1+(jp+1+1)=kp+1+(jp+1)+1 by omega,kCH,if_neg (by rw [q];decide)];exact HKl.out⟩)
         have HPt:Hid (newB eq l (kp+1+(jp+1))=true→KeepAt (newB eq l) l (M.set kk (l.getD (kp+1+(jp+1)) default)) (kp+1+(jp+1+1))∧(kept (newB eq l) l (kp+1+(jp+1+1))).length=kk+1):=hJ (fun q=>⟨by
          have:=HK.out.put (by rw [HN.out];exact hlj) q;rwa [HKl.out] at this,by
          rw [show kp+1+(jp+1+1)=kp+1+(jp+1)+1 by omega,kCH,if_pos q,List.length_append,HKl.out];rfl⟩)
         have HPr1:Hid (M.getD (kp+(jp+1+1)) default=l.getD (kp+(jp+1+1)) default):=hJ (HK.out.at_ _ (by omega))
         have HPr2:Hid ((M.set kk (l.getD (kp+1+(jp+1)) default)).getD (kp+(jp+1+1)) default=l.getD (kp+(jp+1+1)) default):=hJ (by
          rw [← HPr1.out,List.getD_eq_getElem?_getD,List.getElem?_set_ne (by omega),List.getD_eq_getElem?_getD])
         obtain ⟨_,rfl,ax,cx,rfl,hsx⟩:=hrx;obtain ⟨_,rfl,aa,ca,rfl,hsa⟩:=hra;obtain ⟨_,rfl,ak,ck,rfl,_⟩:=hrk;have x0:=HR.out.cell hix 0 _ rfl;have x1:=HR.out.cell hix 1 _ rfl;have a0:=HR.out.cell hia 0 _ rfl;have a1:=HR.out.cell hia 1 _ rfl;rw [show (kp+1+(jp+1)) * 2+0=(kp+1) * 2+(jp+1) * 2 by omega] at x0;rw [show (kp+1+(jp+1)) * 2+1=(kp+1) * 2+(jp+1) * 2+1 by omega] at x1;rw [show (kp+1+jp) * 2+0=(kp+1) * 2+jp * 2 by omega] at a0;rw [show (kp+1+jp) * 2+1=(kp+1) * 2+jp * 2+1 by omega] at a1;have HX0:=hJ x0;have HX1:=hJ x1;have HIK:=hJ hik;have X0:=Later.cell x0;have X1:=Later.cell x1;have A0:=Later.cell a0;have A1:=Later.cell a1;have hcl:css.length=n:=by rw [HL.out.1];exact HMl.out
         have HCl:=hJ hcl;have hji:(((jp+1:Nat):Int) - 1)=(jp:Int):=by omega
         have hjz:(jp:Int)+1<(n:Int) - ((kp:Int)+1):=by omega
         have hjz0:(jp:Int)<(n:Int) - ((kp:Int)+1):=by omega
         clear x0 x1 a0 a1 hix hia hik hsx hsa hcl;generalize l.getD (kp+1+(jp+1)) default=x at *;generalize l.getD (kp+(jp+1)) default=a at *;generalize M.getD kk default=y at *;cases hq:eq x a with
         | true =>
           rw [hq] at HC;have HSk:=hJ (HSk.out (by rw [HNw.out,hq];rfl));clear hq HPt HNw HPr2
           go_wp2_with fail
           refine kAA (by kernel_rfl) (by kernel_rfl) ?_
           repeat (go_big_quiet_step (first | fail | exact Later.call (HC.out _)))
           refine wpQuiet_nil ?_;rintro _ ⟨t9,rfl⟩;have HBq:Hid (Below wr.heap.size wr t9.w):=hJ t9.b;generalize t9.w=wq at *
           go_wp2_with fail
           go_roundw
           case rel=>exact ⟨kk,jp+1+1,M,css,rest,by omega,by omega,by omega,rfl,by go_num,hJ HSk.out.2,hJ HSk.out.1,HPr1,hJ (HR.out.below HBq.out hgl),hJ (HL.out.below HBq.out),HS,hB.later HBq.out⟩
           case measure=>simp [intOf];omega
         | false =>
           rw [hq] at HC;have HPt:=hJ (HPt.out (by rw [HNw.out,hq];rfl));clear hq HSk HNw HPr1
           go_wp2_with fail
           refine kAA (by kernel_rfl) (by kernel_rfl) ?_
           repeat (go_big_quiet_step (first | fail | exact Later.call (HC.out _)))
           refine wpQuiet_nil ?_;rintro _ ⟨t9,rfl⟩;have HBq:Hid (Below wr.heap.size wr t9.w):=hJ t9.b;generalize t9.w=wq at *;clear X0 X1 A0 A1 HC;have HR4:=hJ (HR.out.below HBq.out hgl);have x0:=kAG HX0.out _ HBq.out;have x1:=kAG HX1.out _ HBq.out;have k0:=HR4.out.cell HIK.out 0 _ rfl;have k1:=HR4.out.cell HIK.out 1 _ rfl;rw [Nat.add_zero] at k0;have f0:=HR4.out.fz (kk * 2);have f1:=HR4.out.fz (kk * 2+1);have hkz2:(kk:Int)<(n:Int):=by omega
           go_wp2_with fail
           go_roundw
           case rel=>exact ⟨kk+1,jp+1+1,M.set kk x,_,rest,by omega,by omega,by omega,by go_num,by go_num,hJ HPt.out.2,hJ HPt.out.1,HPr2,hJ (HR4.out.put2 (i:=kk) (by rw [HCl.out];omega) _ _),hJ ((((HL.out.below HBq.out).self _ _).self _ _).set kk (RLin.frame (RLin.below HX.out HBq.out) (fun q hq _=>(kAB (fun e=>hq.2 e.symm)).trans (kAB (fun e=>hq.2 e.symm))))),hJ (by rw [List.length_set];exact HS.out),((hB.later HBq.out).set _ _).set _ _⟩
           case measure=>simp [intOf];omega
       · have hjn2:kp+1+j2=n:=by omega
         have hcl:css.length=n:=by rw [HL.out.1];exact HMl.out
         obtain ⟨vs,hclr⟩:=kJR wr gb (kk * 2) (n - kk) (c - kk) (by omega) (fun i hi=>HR.out.some_cell (by rw [hcl];have:=HS.out;omega)) (fun i hi=>HR.out.fz _);obtain ⟨rest',hR',hr'⟩:=Raw.setCells vs (HR.out.take kk) (o:=kk * 2) (by rw [List.length_take];omega);have HR':=hJ hR';have HFk:Hid (M.take kk=kept (newB eq l) l n):=hJ (by have:=HK.out.front;rw [HKl.out,hjn2] at this;exact this);have HFl:Hid ((kept (newB eq l) l n).length=kk):=hJ (by rw [← HFk.out,List.length_take,HMl.out];omega);have HL':Hid (Lies RLin S (wr.setCells gb (kk * 2) vs) gb (css.take kk) (kept (newB eq l) l n)):=hJ (by rw [← HFk.out];exact (HL.out.take kk).frame (fun q _ hne _=>kGR gb vs wr _ q hne))
         have HS':Hid ((css.take kk).length * 2+rest'.length=c * 2):=hJ (by
          have h1:=HS.out;rw [hr',List.length_append,kBQ (m:=2) (fun cs hc=>HR.out.len cs (List.mem_of_mem_drop hc)),List.length_drop,List.length_take];omega)
         have hkc2:¬c=kk:=by omega
         have hjz:¬(j2:Int)<(n:Int) - ((kp:Int)+1):=by omega
         clear hR' hr' hcl
         go_wp2_with fail
         go_ret;have hO:=HR'.out.own HL'.out hgb (by rw [HFl.out];omega) hcm HS'.out;rw [HFl.out] at hO;exact ⟨⟨_,rfl,hO,(Kb.sets vs hB _).kl _ _ _ _⟩,(Kb.sets vs hB _).below hgb hbase⟩
  · obtain rfl:k=n:=by omega
    have HF:Hid (kept (newB eq l) l k=l):=hJ (by rw [kept_all _ _ _ (by rw [HN.out];exact Nat.le_refl _) HT.out,List.take_of_length_le (by rw [HN.out];exact Nat.le_refl _)])
    go_wp2_with fail
    go_ret;exact ⟨⟨_,rfl,by rw [HF.out];exact HO.out.below hB,Kl.below hB⟩,hB.mono hbase⟩
theorem insSort_Lin0 (a:Option Addr) (c:Nat) (w:World) (g:FuncId):Calls Tryz.prog 192 #[.slice a 0 c,.int .i64 0,.int .i64 0,.func (.func g) #[] #[]] w fun e w'=>e= .returned (.tuple #[])∧w=w':=by
 go_enter func192,ntmps192
 go_wp2_with fail
 go_loopw [8] (fun i wr=>i= .int .i64 1∧w=wr) (fun _ _=>0)
 case atStart=>exact ⟨rfl,rfl⟩
 case round =>
  obtain ⟨rfl,rfl⟩:=hrel
  go_wp2_with fail
  go_end0;exact ⟨rfl,rfl⟩
def SrtedV (S:Blk) (base:Nat) (cmp:Lin→Lin→Int) (l:List Lin) (v:Value) (w w':World):Prop:=∃ m,m.Perm l∧Le cmp m∧Own RLin 49 S w' base v m∧Kl v v w w'
theorem insSort_LinA {S:Blk} {w:World} {base:Nat} {v:Value} {l:List Lin} (h:Own RLin 49 S w base v l) (hbase:base≤w.heap.size) (hn:l.length≤12) (g:FuncId) (hen:Ent1 g) (cmp:Lin→Lin→Int) (hc:PreC cmp)
 (hcmp:∀ (S' T':Blk) (W:World) (x y:Lin) (cs ds:List Value),RLin.rd S' W cs x→RLin.rd T' W ds y→Calls Tryz.prog g #[.agg cs.toArray,.agg ds.toArray] W fun e w'=>e= .returned (.int .i64 (cmp x y))∧Below W.heap.size W w') :
 Calls Tryz.prog 192 #[v,.int .i64 0,.int .i64 l.length,.func (.func g) #[] #[]] w fun e w'=>(e= .returned (.tuple #[])∧SrtedV S base cmp l v w w')∧Below base w w':=by
 by_cases hl:0<l.length
 · exact insSort_Lin h hbase hl (by omega) g hen cmp hc hcmp
 · obtain rfl:l=[]:=List.eq_nil_of_length_eq_zero (by omega)
   obtain ⟨a,c,rfl,_⟩:=h.sl;refine (insSort_Lin0 a c w g).mono ?_;rintro e _ ⟨rfl,rfl⟩;exact ⟨⟨rfl,[],List.Perm.refl _,List.Pairwise.nil,h,Kl.refl _ _⟩,Below.refl _ _⟩
theorem pdq_Lin {S:Blk} {w:World} {base:Nat} {v:Value} {l:List Lin} (h:Own RLin 49 S w base v l) (hbase:base≤w.heap.size) (hn:l.length≤12) (lim:Int) (g:FuncId) (hen:Ent1 g) (cmp:Lin→Lin→Int) (hc:PreC cmp)
 (hcmp:∀ (S' T':Blk) (W:World) (x y:Lin) (cs ds:List Value),RLin.rd S' W cs x→RLin.rd T' W ds y→Calls Tryz.prog g #[.agg cs.toArray,.agg ds.toArray] W fun e w'=>e= .returned (.int .i64 (cmp x y))∧Below W.heap.size W w') :
 Calls Tryz.prog 136 #[v,.int .i64 0,.int .i64 l.length,.int .i64 lim,.func (.func g) #[] #[]] w fun e w'=>(e= .returned (.tuple #[])∧SrtedV S base cmp l v w w')∧Below base w w':=by
 have HI:=hJ (insSort_LinA h hbase hn g hen cmp hc hcmp);obtain ⟨a,m,c,rfl⟩:=h.shape;clear h hcmp hc;generalize SrtedV S base cmp l (.slice a m c) w=Q at *;generalize l.length=n at *;have h12:(n:Int)≤12:=by omega
 go_enter func136,ntmps136
 go_wp2_with fail
 go_loopw [1,2] (fun a b wr=>a= .int .i64 0∧b= .int .i64 n∧w=wr) (fun _ _ _=>0)
 case atStart=>exact ⟨rfl,rfl,rfl⟩
 case round =>
  obtain ⟨rfl,rfl,rfl⟩:=hrel
  go_wp2_with fail
  refine HI.out.mono ?_;rintro e w1 ⟨⟨rfl,hs⟩,hb⟩;have HS:=hJ hs;clear hs
  go_wp2_with fail
  refine bodyPost_ret (results_none rfl _ _ _) rfl ?_;exact ⟨⟨rfl,HS.out⟩,hb⟩
theorem sortFunc_Lin {S:Blk} {w:World} {base:Nat} {v:Value} {l:List Lin} (h:Own RLin 49 S w base v l) (hbase:base≤w.heap.size) (hn:l.length≤12) (g:FuncId) (hen:Ent1 g) (cmp:Lin→Lin→Int) (hc:PreC cmp)
 (hcmp:∀ (S' T':Blk) (W:World) (x y:Lin) (cs ds:List Value),RLin.rd S' W cs x→RLin.rd T' W ds y→Calls Tryz.prog g #[.agg cs.toArray,.agg ds.toArray] W fun e w'=>e= .returned (.int .i64 (cmp x y))∧Below W.heap.size W w') :
 Calls Tryz.prog 76 #[v,.func (.func g) #[] #[]] w fun e w'=>(e= .returned (.tuple #[])∧SrtedV S base cmp l v w w')∧Below base w w':=by
 have HI:=hJ (fun lim=>pdq_Lin h hbase hn lim g hen cmp hc hcmp);obtain ⟨a,m,c,rfl⟩:=h.shape;obtain ⟨_,_,q,_⟩:=h.sl;rw [Value.slice.injEq] at q;obtain ⟨-,rfl,-⟩:=q;clear h hcmp hc;generalize SrtedV S base cmp l _ w=Q at *;generalize l.length=n at *;have wr:IntKind.u64.wrap (n:Int)=n:=by simp [IntKind.wrap,IntKind.bits,IntKind.signed];omega
 go_enter func76,ntmps76
 go_wp2_with fail
 refine (Tryz.bits_Len (n:Int) _ (by omega) (by omega)).mono ?_;rintro e w1 ⟨rfl,rfl⟩
 go_wp2_with fail
 refine (HI.out _).mono ?_;rintro e w2 ⟨⟨rfl,hs⟩,hb⟩;have HS:=hJ hs;clear hs
 go_wp2_with fail
 go_end0;exact ⟨⟨rfl,HS.out⟩,hb⟩
theorem Kp.kl {v v':Value} {w w':World} (h:Kp v v' w w'):Kl v v' w w' :=
 ⟨h.block,fun q hq=>h.own.elim (fun e=>.inl (by rw [← e];exact hq)) (fun e=>.inr (by rw [e] at hq;cases hq;exact Nat.le_refl _))⟩
def Apart (T:Blk) (w:World) (v:Value):Prop:=∀ q,T q→q<w.heap.size∧v.ownBlock≠some q
theorem Apart.kl {T:Blk} {w w':World} {v v':Value} (h:Apart T w v) (k:Kl v v' w w') (hs:w.heap.size≤w'.heap.size):Apart T w' v':=fun q hq=>⟨by have:=(h q hq).1;omega,fun e=>(k.own q e).elim (h q hq).2 (fun r=>by have:=(h q hq).1;omega)⟩
theorem Sl.kl {α :Type} {R:Rep α} {T:Blk} {w w':World} {a:Option Addr} {n c:Nat} {l:List α} {v v':Value} (h:Sl R T w a n c l) (ha:Apart T w v) (k:Kl v v' w w'):Sl R T w' a n c l:=h.frame fun q hq hlt=>k.block q hlt (ha q hq).2
theorem Apart.below {T:Blk} {w w':World} {v:Value} (h:Apart T w v) (hs:w.heap.size≤w'.heap.size):Apart T w' v:=fun q hq=>⟨by have:=(h q hq).1;omega,(h q hq).2⟩
theorem Own.slAt {α :Type} {R:Rep α} {E:TypeId} {S:Blk} {w:World} {base:Nat} {v:Value} {l:List α} (h:Own R E S w base v l):∃ a c,v= .slice a l.length c∧Sl R (fun k=>S k∨At a k) w a l.length c l∧∀ q,At a q→base≤q∧q<w.heap.size:=by
 have hblk:=fun {k}=> @Own.block _ _ _ _ _ _ _ _ h k
 obtain ⟨css,hl,hrow,hel⟩:=h.row;obtain ⟨a,c,rfl,h1,h2,h3,h4⟩:=kDN hrow;refine ⟨a,c,rfl,⟨rfl,h1,h2,h3,fun i x hx=>?_⟩,fun q hq=>?_⟩
 · obtain ⟨cs,hcs,hr⟩:=hel i x hx
   obtain ⟨_,⟨hv,h0⟩ | ⟨g,cap,cur,hv,hg,hh,hn,hm,hs,ht⟩⟩:=hrow
   · obtain rfl:l=[]:=List.eq_nil_of_length_eq_zero h0
     simp at hx
   · rw [Value.slice.injEq] at hv
     obtain ⟨rfl,-,rfl⟩:=hv;refine ⟨g,0,cs,rfl,.inr ⟨_,rfl,rfl⟩,R.mono hr (fun k hk _=>.inl hk.1),fun j u hu=>?_⟩
     have hall:∀ cs ∈ css,cs.length=R.size:=fun cs' hm'=>by
      obtain ⟨i',hi',rfl⟩:=List.getElem_of_mem hm';obtain ⟨cs2,e2,r2⟩:=hel i' (l[i']'(by omega)) (List.getElem?_eq_getElem (by omega));rw [List.getElem?_eq_getElem hi'] at e2;cases e2;exact R.len r2
     have hu2:=kIC hall i cs j u hcs hu
     have hlt:i * R.size+j<l.length * R.size:=by
      have hfl:css.flatten.length=l.length * R.size:=by
       have hcl:cur.toList.length=c * R.size:=by rw [← hs];simp
       have:l.length * R.size≤c * R.size:=Nat.mul_le_mul_right _ h1;rw [← ht,List.length_take,hcl];omega
      rw [← hfl];rcases Nat.lt_or_ge (i * R.size+j) css.flatten.length with q | q
      · exact q
      · rw [List.getElem?_eq_none q] at hu2;cases hu2
     rw [Nat.zero_add]
     have:cur.toList[i * R.size+j]? =some u:=by
      rw [← ht,List.getElem?_take,if_pos hlt] at hu2;exact hu2
     simp [World.cell?,hh];rw [← Array.getElem?_toList];exact this
 · obtain ⟨b,rfl,rfl⟩:=hq
   exact hblk (by rfl)
theorem Own.self {α :Type} {R:Rep α} {E:TypeId} {w:World} {base:Nat} {v:Value} {l:List α} (h:Own R E (fun _=>False) w base v l):∃ a c,v= .slice a l.length c∧Sl R (At a) w a l.length c l∧∀ q,At a q→base≤q∧q<w.heap.size:=by
 obtain ⟨a,c,e,hs,hq⟩:=h.slAt;exact ⟨a,c,e,hs.mono (fun q r _=>r.elim False.elim id),hq⟩
def Bare (l:List Bnd):Prop:=∀ x ∈ l,x=bare x.kind x.v
theorem InvV.bare {l:List Bnd} (h:InvV l):Bare l:=fun x hx=>(h.good x hx).1
theorem bare_rd {S S':Blk} {w w':World} {cs:List Value} {x:Bnd} (h:RBnd.rd S w cs x) (hb:x=bare x.kind x.v):RBnd.rd S' w' cs x:=by
 obtain ⟨t,d,rfl,⟨a,c,rfl,h1⟩,⟨a2,c2,rfl,h2⟩⟩:=h;have e1:x.dim.terms=[]:=by rw [hb];rfl
 have e2:x.row.dims=[]:=by rw [hb];rfl
 refine ⟨_,_,rfl,⟨a,c,rfl,⟨h1.len,h1.cap,h1.max,h1.nil,fun i y hy=>?_⟩⟩,⟨a2,c2,rfl,⟨h2.len,h2.cap,h2.max,h2.nil,fun i y hy=>?_⟩⟩⟩
 · rw [e1] at hy;simp at hy
 · rw [e2] at hy;simp at hy
theorem addBs_next {l0 m:List Bnd} {j:Nat} (h:j<m.length):addBs l0 (m.take (j+1))=addV (addBs l0 (m.take j)) (m.getD j default).kind (m.getD j default).v:=by
 unfold addBs;rw [kBB h,List.foldl_append];rfl
theorem varsAll_next {l:List Typ} {k:Nat} (h:k<l.length):kCK (l.take (k+1))=addBs (kCK (l.take k)) (kDZ (l.getD k default)):=by
 unfold kCK;rw [kBB h,List.foldl_append];rfl
theorem types_with {T:Blk} {w:World} {base:Nat} {v:Value} {l:List Bnd} (h:Own RBnd 114 (fun _=>False) w base v l) (hbase:base≤w.heap.size) (m:List Bnd) (a:Option Addr) (n c:Nat) (hm:Sl RBnd T w a n c m) (hT:Apart T w v) (hb:Bare m) (hl:l.length+n≤1000000) :
 Calls Tryz.prog 128 #[v,.slice a n c] w fun e w'=>(∃ v',e= .returned v'∧Own RBnd 114 (fun _=>False) w' base v' (addBs l m)∧Kl v v' w w')∧Below base w w':=by
 have hml:=hm.len;have HML:=hJ hml;have HO:=hJ h;have HS:=hJ hm;have HT:=hJ hT;have HBare:=hJ hb;have hsm:=hm.small;obtain ⟨a0,m0,c0,rfl⟩:=h.shape;clear hml h hm hT hb;go_enter func128,ntmps128
 go_wp2_with fail
 go_loopw [0,9] (fun v i wr=>∃ (j:Nat) (v0:Value),j≤n∧i= .int .i64 j∧v0=v∧Hid (Own RBnd 114 (fun _=>False) wr base v (addBs l (m.take j)))∧Hid (Sl RBnd T wr a n c m)∧Hid (Apart T wr v)∧Hid (Kl (.slice a0 m0 c0) v w wr)∧Below base w wr) (fun _ i _=>n - (intOf i).toNat)
 case atStart=>exact ⟨0,_,Nat.zero_le _,rfl,rfl,HO,HS,HT,hJ (Kl.refl _ _),Below.refl _ _⟩
 case round =>
  obtain ⟨j,v0,hj,rfl,rfl,HO,HS,HT,HK,hB⟩:=hrel;have hsz:=hB.size;by_cases hlt:j<n
  · obtain ⟨b,off,rfl,hbW,_⟩:=HS.out.form j hlt
    obtain ⟨t,d,hr,⟨⟨ta,tc,rfl,_⟩,⟨da,dc,rfl,_⟩⟩,e0,e1,e2,e3,e4,e5,e6⟩:=HS.out.bnd j hlt;have hjm:j<m.length:=by rw [HML.out];exact hlt
    have HStep:=hJ (addBs_next (l0:=l) hjm);have HBx:=hJ (HBare.out _ (kAJ hjm))
    have HLen:Hid ((addBs l (m.take j)).length≤999999):=hJ (by
     have q1:=addBs_len (m.take j) l;rw [List.length_take] at q1;omega)
    clear hjm;generalize m.getD j default=x at *;have HR:=hJ (fun (S':Blk) (w':World)=>bare_rd (S':=S') (w':=w') hr HBx.out);obtain ⟨a3,m3,c3,rfl⟩:=HO.out.shape;obtain ⟨_,_,q3,hsl3⟩:=HO.out.sl;rw [Value.slice.injEq] at q3;obtain ⟨rfl,rfl,rfl⟩:=q3;have HC:=hJ (fun (W:World) (hW:Below wr.heap.size wr W)=>types_find _ a3 _ c3 W (hsl3.below hW) x.kind x.v);have HOld:=hJ (fun q=>addV_old (l:=addBs l (m.take j)) (k:=x.kind) (v:=x.v) q);have HNew:=hJ (fun q=>addV_new (l:=addBs l (m.take j)) (k:=x.kind) (v:=x.v) q);clear hsl3 hr;generalize addBs l (m.take j)=l1 at *;generalize kB2 l1 x.kind x.v=q at *;have HA:Hid (Below wr.heap.size wr (wr.alloc (.cells #[.int .i64 x.kind,.string x.v,.int .i64 x.dim.const,.slice ta x.dim.terms.length tc,.string x.row.row,.slice da x.row.dims.length dc,.string x.elem] 114))):=hJ ((Below.refl _ _).alloc (Nat.le_refl _) _);have HP:=hJ (Bx.fresh wr 114 [.int .i64 x.kind,.string x.v,.int .i64 x.dim.const,.slice ta x.dim.terms.length tc,.string x.row.row,.slice da x.row.dims.length dc,.string x.elem]);by_cases hq:q<0
    · have HNew:Hid (addV l1 x.kind x.v=l1++[x]):=hJ (by rw [HNew.out hq,← HBx.out])
      go_wp2_with fail
      refine (HC.out _ HA.out).mono ?_;rintro e w4 ⟨rfl,hb4⟩;have HP4:=hJ (HP.out.below hb4 (by simp));have p0:=HP4.out.cell 0 _ rfl;have p1:=HP4.out.cell 1 _ rfl;have p2:=HP4.out.cell 2 _ rfl;have p3:=HP4.out.cell 3 _ rfl;have p4:=HP4.out.cell 4 _ rfl;have p5:=HP4.out.cell 5 _ rfl;have p6:=HP4.out.cell 6 _ rfl;have HB4:=hJ (HA.out.trans (hb4.mono HA.out.size));have hz4:=HB4.out.size
      go_wp2_with (at_builtin;refine kA4 elemBnd rfl _ _ rfl base _ _ rfl ((HO.out.below HB4.out).alloc _) _ x [.int .i64 x.kind,.string x.v,.int .i64 x.dim.const,.slice ta x.dim.terms.length tc,.string x.row.row,.slice da x.row.dims.length dc,.string x.elem] rfl (HR.out _ _) (kA6 114 (by (simp only [kAK,kAI,Array.getElem?_push,Array.size_push];simp))) (by have:=HLen.out;omega) (by have:=HLen.out;unfold maxLen;omega) (by simp;omega) ?_;intro v9 w9 hown9 hb9 hk9;obtain ⟨a9,m9,c9,rfl⟩:=hown9.shape)
      have HK9:Hid (Kl _ _ wr w9):=hJ ((Kl.below (HB4.out.alloc HB4.out.size _)).trans hk9.kl (by simp;omega));have hz9:wr.heap.size≤w9.heap.size:=by have:=hb9.size;simp at this;omega
      go_roundw
      case rel=>exact ⟨j+1,_,by omega,by go_num,rfl,hJ (by rw [HStep.out,HNew.out];exact hown9),hJ (HS.out.kl HT.out HK9.out),hJ (HT.out.kl HK9.out hz9),hJ (HK.out.trans HK9.out hsz),(hB.trans ((HB4.out.alloc HB4.out.size _).mono (by omega))).trans hb9⟩
      case measure=>simp [intOf];omega
    · have HOld:=hJ (HOld.out (by omega))
      have hq2:0≤q:=by omega
      clear hq
      go_wp2_with fail
      refine (HC.out _ HA.out).mono ?_;rintro e w4 ⟨rfl,hb4⟩;have HB4:=hJ (HA.out.trans (hb4.mono HA.out.size));have hz4:=HB4.out.size
      go_wp2_with fail
      go_roundw
      case rel=>exact ⟨j+1,_,by omega,by go_num,rfl,hJ (by rw [HStep.out,HOld.out];exact HO.out.below HB4.out),hJ (HS.out.below HB4.out),hJ (HT.out.below hz4),hJ (HK.out.trans (Kl.below HB4.out) hsz),hB.trans (HB4.out.mono (by omega))⟩
      case measure=>simp [intOf];omega
  · have HAll:Hid (m.take j=m):=hJ (List.take_of_length_le (by rw [HML.out];omega))
    obtain ⟨a3,m3,c3,rfl⟩:=HO.out.shape
    go_wp2_with fail
    go_ret;exact ⟨⟨_,rfl,by have:=HO.out;rwa [HAll.out] at this,HK.out⟩,hB⟩
theorem zeroCells_size (z:Array Value) (n:Nat):(Builtin.zeroCells z n).size=n * z.size:=by simp [Builtin.zeroCells]
theorem grow_Typ (n:Nat) (h1:1≤n) (hn:n≤1000) (w:World) :
 Calls Tryz.prog 182 #[.slice none 0 0,.int .i64 n] w fun e w'=>(∃ c,e= .returned (.slice (some ⟨w.heap.size,0,none⟩) 0 c)∧Own RTyp 54 (fun _=>False) w' w.heap.size (.slice (some ⟨w.heap.size,0,none⟩) 0 c) [])∧Below w.heap.size w w':=by
 obtain ⟨i0,z,hi,hz,hs,hb,hzs⟩:=kG0.parts;have hbig:(0+n) * i0.bytes≤140737488355328:=by rw [hb];omega
 refine (Go.Proofs.Any8.slices_Grow_grow Tryz.growT i0 z hi hz (by rw [hs];decide) none 0 0 n [] w (Nat.le_refl _) (by omega) hbig (by omega) (by simp) (fun _=>rfl) (fun a h=>by cases h)).mono ?_;rintro e w' ⟨rfl,rfl⟩;refine ⟨⟨_,rfl,⟨[],rfl,⟨by simp,.inr ⟨w.heap.size,_,(([]:List Value).toArray++Builtin.zeroCells z.cells (0+n - 0))++Builtin.zeroCells z.cells (grownCap w (0+n) 0 54 - (0+n)),rfl,Nat.le_refl _,?_,Nat.zero_le _,grownCap_le_maxLen _ _ _ _ (by unfold maxLen;omega),?_,by simp⟩⟩,fun i x hx=>by simp at hx⟩⟩,((Below.refl _ _).drew).alloc (Nat.le_refl _) _⟩
 · show ((w.drew.heap).push _)[w.heap.size]? =_
   rw [show w.drew.heap=w.heap from rfl];simp;exact ⟨rfl,rfl⟩
 · have hge:=grownCap_ge w (0+n) 0 54
   simp only [Array.size_append,zeroCells_size,hzs];have hG:grownCap w (0+n) 0 (Tryz.growT_ren.t 25)=grownCap w (0+n) 0 54:=rfl;have h3:RTyp.size=3:=rfl;rw [hG,h3];simp only [List.size_toArray,List.length_nil];generalize grownCap w (0+n) 0 54=G at *;omega
theorem concat_Typ {S1 S2:Blk} (l1 l2:List Typ) (a1:Option Addr) (n1 c1:Nat) (a2:Option Addr) (n2 c2:Nat) (g:Nat) (w:World) (hbx:Bx w g 55 [.slice a1 n1 c1,.slice a2 n2 c2]) (h1:Sl RTyp S1 w a1 n1 c1 l1) (h2:Sl RTyp S2 w a2 n2 c2 l2) (hn:n1+n2≤1000) (hp:1≤n1+n2) :
 Calls Tryz.prog 127 #[.slice (some ⟨g,0,none⟩) 2 2] w fun e w'=>(∃ v,e= .returned v∧Own RTyp 54 (fun k=>S1 k∨S2 k) w' w.heap.size v (l1++l2))∧Below w.heap.size w w':=by
 have hl1:=h1.len;have hl2:=h2.len;have HL1:=hJ hl1;have HL2:=hJ hl2;have H1:=hJ h1;have H2:=hJ h2;have HB:=hJ hbx;have b0:=hbx.cell 0 _ rfl;have b1:=hbx.cell 1 _ rfl;have hgl:=hbx.lt;have HG:=hJ (grow_Typ (n1+n2) hp hn w);rw [Int.natCast_add] at HG;clear h1 h2 hbx hl1 hl2;go_enter func127,ntmps127
 go_wp2_with fail
 go_loopw [3,11] (fun sz i wr=>w=wr∧((i= .int .i64 0∧sz= .int .i64 0)∨(i= .int .i64 1∧sz= .int .i64 n1)∨(i= .int .i64 2∧sz= .int .i64 ((n1:Int)+n2)))) (fun _ i _=>2 - (intOf i).toNat)
 case atStart=>exact ⟨rfl,.inl ⟨rfl,rfl⟩⟩
 case round =>
  obtain ⟨rfl,⟨rfl,rfl⟩ | ⟨rfl,rfl⟩ | ⟨rfl,rfl⟩⟩:=hrel
  · go_wp2_with fail
    go_roundw
    case rel=>exact ⟨trivial,.inr (.inl ⟨rfl,by go_num⟩)⟩
    case measure=>simp [intOf]
  · go_wp2_with fail
    go_roundw
    case rel=>exact ⟨trivial,.inr (.inr ⟨rfl,by go_num⟩)⟩
    case measure=>simp [intOf]
  · go_wp2_with fail
    refine HG.out.mono ?_;rintro e w1 ⟨⟨c,rfl,hown⟩,hb1⟩;have HO:=hJ (hown.mono (S':=fun k=>S1 k∨S2 k) (fun k h _=>h.elim));have d0:=kAG b0 _ hb1;have d1:=kAG b1 _ hb1;have HB1:=hJ (HB.out.below hb1 hgl);clear hown b0 b1
    go_wp2_with fail
    go_loopw [6,27] (fun v i wr=>∃ v0:Value,v0=v∧Below w.heap.size w wr∧Hid (∀ q,v.ownBlock=some q→w.heap.size≤q)∧((i= .int .i64 0∧Hid (Own RTyp 54 (fun k=>S1 k∨S2 k) wr w.heap.size v []))∨(i= .int .i64 1∧Hid (Own RTyp 54 (fun k=>S1 k∨S2 k) wr w.heap.size v l1))∨(i= .int .i64 2∧Hid (Own RTyp 54 (fun k=>S1 k∨S2 k) wr w.heap.size v (l1++l2))))) (fun _ i _=>2 - (intOf i).toNat)
    case atStart=>exact ⟨_,rfl,hb1,hJ (fun q e=>HO.out.base_le q e),.inl ⟨rfl,HO⟩⟩
    case round =>
     obtain ⟨v0,rfl,hB,HN,⟨rfl,HO⟩ | ⟨rfl,HO⟩ | ⟨rfl,HO⟩⟩:=hrel
     · have HB2:=hJ (HB.out.below hB hgl)
       have e0:=HB2.out.cell 0 _ rfl;obtain ⟨a0,m0,c0,rfl⟩:=HO.out.shape;have hsz:=hB.size
       go_wp2_with (at_builtin;refine app_sl kG0 rfl _ _ rfl w.heap.size _ _ l1 rfl HO.out a1 n1 c1 rfl ((H1.out.later hB HN.out).mono (fun k hk _=>⟨.inl hk.1,hk.2⟩)) (by simp;omega) (by unfold maxLen;simp;omega) (by omega) ?_;intro v9 w9 hown9 hb9 hk9)
       go_roundw
       case rel=>exact ⟨_,rfl,hB.trans hb9,hJ (fun q e=>hown9.base_le q e),.inr (.inl ⟨rfl,hown9⟩)⟩
       case measure=>simp [intOf]
     · have HB2:=hJ (HB.out.below hB hgl)
       have e1:=HB2.out.cell 1 _ rfl;obtain ⟨a0,m0,c0,rfl⟩:=HO.out.shape;have hsz:=hB.size
       go_wp2_with (at_builtin;refine app_sl kG0 rfl _ _ rfl w.heap.size _ l1 l2 rfl HO.out a2 n2 c2 rfl ((H2.out.later hB HN.out).mono (fun k hk _=>⟨.inr hk.1,hk.2⟩)) (by rw [HL1.out];omega) (by unfold maxLen;rw [HL1.out];omega) (by omega) ?_;intro v9 w9 hown9 hb9 hk9)
       go_roundw
       case rel=>exact ⟨_,rfl,hB.trans hb9,hJ (fun q e=>hown9.base_le q e),.inr (.inr ⟨rfl,hown9⟩)⟩
       case measure=>simp [intOf]
     · obtain ⟨a0,m0,c0,rfl⟩:=HO.out.shape
       go_wp2_with fail
       go_ret;exact ⟨⟨_,rfl,HO.out⟩,hB⟩
def PlainB (b:List Bnd):Prop:=∀ y ∈ b,y.row.dims=[]
theorem subRow_dims {b:List Bnd} (h:PlainB b) (s:Shp):(kHJ b s).dims=[]:=by
 unfold kHJ
 split
 · rfl
 · split
   · next q=>exact h _ (find_hit q).1
   · rfl
theorem ok_dims {b:List Bnd} (h:PlainB b) {s:Shp} (hv:kAF s=true):kBJ b s=dimsOk b s:=by
 unfold kBJ;rw [subRow_dims h,decide_eq_true (by have:=(kEZ hv).1;simpa using this),Bool.and_true]
theorem subShp_good {b:List Bnd} (h:PlainB b) {s:Shp} (hv:kAF s=true) (hd:∀ i,i<s.dims.length→kAC (kAM b (s.dims.getD i default))=true):kJM b s=⟨(kHJ b s).row,s.dims.map (kAM b)⟩∧kE3 b s=0:=by
 have:kBJ b s=true:=by
  rw [ok_dims h hv];unfold dimsOk;rw [List.all_eq_true];intro x hx;obtain ⟨i,hi,e⟩:=List.getElem_of_mem hx;have:=hd i hi;rw [List.getD_eq_getElem?_getD,List.getElem?_eq_getElem hi] at this;rw [← e];exact this
 unfold kJM kE3;rw [this];refine ⟨?_,rfl⟩
 show subShpR b s=_
 unfold subShpR;rw [subRow_dims h];rfl
theorem subShp_bad {b:List Bnd} (h:PlainB b) {s:Shp} (hv:kAF s=true) {i:Nat} (hi:i<s.dims.length) (hd:kAC (kAM b (s.dims.getD i default))=false):kJM b s=kDE∧kE3 b s=3:=by
 have:kBJ b s=false:=by
  rw [ok_dims h hv];unfold dimsOk;rw [List.all_eq_false];exact ⟨_,kAJ hi,by rw [hd];decide⟩
 unfold kJM kE3;rw [this];exact ⟨rfl,rfl⟩
theorem kJ4 {x:Lin} (h:kAC x=true):limL x=x∧limE x=0:=by unfold limL limE;rw [h];exact ⟨rfl,rfl⟩
theorem lim_bad {x:Lin} (h:kAC x=false):limL x=⟨0,[]⟩∧limE x=3:=by unfold limL limE;rw [h];exact ⟨rfl,rfl⟩
theorem shape_made {S:Blk} (row:Str) (l:List Lin) (a:Option Addr) (n c:Nat) (w:World) (h:Sl RLin S w a n c l) (hn:n≤6) (hl:∀ x ∈ l,x.terms.length≤1000) :
 Calls Tryz.prog 228 #[.string row,.slice a n c] w fun e w'=>(∃ ds,e= .returned (.tuple #[.agg ds.toArray,.int .i64 0])∧RShp.rd (fun k=>w.heap.size≤k) w' ds ⟨row,l⟩)∧Below w.heap.size w w':=by
 have HL:=hJ h.len;have B0:Hid (Below w.heap.size w (w.alloc (.cells #[.string ⟨#[]⟩,.slice none 0 0] 52))):=hJ ((Below.refl _ _).alloc (Nat.le_refl _) _);have HC:=hJ (shape_clones l a n c _ (h.below B0.out) (by omega) hl);have HT:=hJ (Bx.fresh w 52 [.string ⟨#[]⟩,.slice none 0 0]);clear h hl;go_enter func228,ntmps228
 go_wp2_with fail
 refine HC.out.mono ?_;rintro e w1 ⟨⟨v,rfl,hown⟩,hb⟩;obtain ⟨a1,c1,rfl,hs1⟩:=hown.sl;rw [HL.out] at hs1 ⊢;have HX:=hJ (HT.out.below hb (by simp));have u0:=HX.out.cell 0 _ rfl;have u1:=HX.out.cell 1 _ rfl;have u2:=HX.out.fz 0;have u3:=HX.out.fz 1;have HX60:=hJ ((HX.out.set 0 (.string row)).set 1 (.slice a1 n c1));have s0:=HX60.out.cell 0 _ rfl;have s1:=HX60.out.cell 1 _ rfl;have HS1:=hJ hs1;clear hs1 hown
 go_wp2_with fail
 refine bodyPost_ret (v:=.tuple #[.agg #[.string row,.slice a1 n c1],.int .i64 0]) (by simp [results,results228,go_sem,s0,s1]) rfl ?_;refine ⟨⟨[.string row,.slice a1 n c1],rfl,⟨_,rfl,a1,c1,by rw [HL.out],?_⟩⟩,((B0.out.trans (hb.mono (by simp))).setCell (Nat.le_refl _) _).setCell (Nat.le_refl _) _⟩
 show Sl RLin _ _ a1 l.length c1 l
 rw [HL.out];refine (HS1.out.frame fun q hq _=>?_).mono (fun q hq _=>?_)
 · have hq:w.heap.size+1≤q:=by rcases hq with hq | hq <;> simpa using hq
   rw [kAB (by show w.heap.size≠q;omega),kAB (by show w.heap.size≠q;omega)]
 · have hq:w.heap.size+1≤q:=by rcases hq with hq | hq <;> simpa using hq
   omega
theorem clones_none {S:Blk} (a:Option Addr) (c:Nat) (w:World):Calls Tryz.prog 227 #[.slice a 0 c] w fun e w'=>e= .returned (.slice none 0 0)∧w=w':=by
 go_enter func227,ntmps227
 go_wp2_with fail
 go_loopw [3,8] (fun v i wr=>i= .int .i64 0∧v= .slice none 0 0∧w=wr) (fun _ i _=>0)
 case atStart=>exact ⟨rfl,rfl,rfl⟩
 case round =>
  obtain ⟨rfl,rfl,rfl⟩:=hrel
  go_wp2_with fail
  go_ret;exact ⟨rfl,rfl⟩
theorem shape_Subst {S T:Blk} {s:Shp} {cs:List Value} {w:World} (h:RShp.rd S w cs s) (hv:kAF s=true) (b:List Bnd) (a:Option Addr) (nb cb:Nat) (hbs:Sl RBnd T w a nb cb b) (hb:kCU b=true) (hp:PlainB b) (E:Env w) :
 Calls Tryz.prog 188 #[.agg cs.toArray,.slice a nb cb] w fun e w'=>(∃ ds,e= .returned (.tuple #[.agg ds.toArray,.int .i64 (kE3 b s)])∧RShp.rd (fun k=>w.heap.size≤k) w' ds (kJM b s))∧Below w.heap.size w w':=by
 have HCV:Hid (∀ W,Below w.heap.size w W→Calls Tryz.prog 143 #[.agg cs.toArray] W fun e w'=>e= .returned (.bool true)∧Below W.heap.size W w') :=
  hJ (fun W hW=>hv ▸ kD5 (RShp.below h hW) (shp_sz hv) (E.below hW))
 have HCB:Hid (∀ W,Below w.heap.size w W→Calls Tryz.prog 132 #[.slice a nb cb] W fun e w'=>e= .returned (.bool true)∧Below W.heap.size W w') :=
  hJ (fun W hW=>kEL b a nb cb W (hbs.below hW) hb (E.below hW))
 obtain ⟨_,rfl,ad,cd,rfl,hds⟩:=h;have HDs:=hJ hds;have HBS:=hJ hbs;have HD:=hJ (kEZ hv);have HG:=hJ (kIK hb);have HP:=hJ hp;have EE:=hJ E;have HGood:=hJ (fun q=>subShp_good (b:=b) (s:=s) hp hv q);have HBad:=hJ (fun (i:Nat) (q1:i<s.dims.length) q2=>subShp_bad (b:=b) (s:=s) hp hv q1 q2);have HRow:Hid (kHJ b s=if s.row.toList.isEmpty then ⟨s.row,[]⟩ else if 0≤kB2 b 2 s.row then (b.getD (kB2 b 2 s.row).toNat default).row else ⟨s.row,[]⟩):=hJ rfl;have hmd:=hds.small;have hnb:=hbs.small;have hd6:=(kEZ hv).1;clear hds hbs hv hb hp E;generalize hnd:s.dims.length=n at *;have HND:=hJ hnd;clear hnd;obtain ⟨B0,ya,yb,hW0⟩:=box2 w 52 [.string s.row,.slice ad n cd] 52 [.string ⟨#[]⟩,.slice none 0 0];have xa0:=box0 ya 0 _ rfl;have xa1:=box0 ya 1 _ rfl;have xb0:=box0 yb 0 _ rfl;have xb1:=box0 yb 1 _ rfl;have bka:Bx _ _ _ _:=ya;have bkb:Bx _ _ _ _:=yb;clear ya yb;have HB4:=hJ bkb;clear bka bkb;go_enter func188,ntmps188
 go_wp2_with fail
 refine (HCV.out _ B0.out).mono ?_;rintro e w1 ⟨rfl,hb1⟩;have hW1:=B0.out.trans (hb1.mono B0.out.size)
 go_wp2_with fail
 refine (HCB.out _ hW1).mono ?_;rintro e w2 ⟨rfl,hb2⟩;have HW:=hJ (hW1.trans (hb2.mono hW1.size));have y0:=kAG (kAG xa0 _ hb1) _ hb2;have y1:=kAG (kAG xa1 _ hb1) _ hb2;have HX4:=hJ ((HB4.out.below hb1 HB4.out.lt).below hb2 (HB4.out.below hb1 HB4.out.lt).lt);have hl4:=HX4.out.lt;clear xa0 xa1 xb0 xb1 hb1 hb2 hW1 HB4;have HCF:=hJ (kH2 b a nb cb w2 (HBS.out.below HW.out) 2 s.row)
 have HFnd:Hid (0≤kB2 b 2 s.row→∃ k:Nat,kB2 b 2 s.row=(k:Int)∧k<b.length):=hJ (fun q=>by
  unfold kB2 idx at q ⊢;by_cases ha:b.any (isB 2 s.row)=true
  · rw [if_pos ha] at q ⊢
    exact ⟨b.findIdx (isB 2 s.row),rfl,(any_hit ha).1⟩
  · rw [if_neg ha] at q;omega)
 go_wp2_with fail
 refine (HCF.out).mono ?_;rintro e w3 ⟨rfl,hb3⟩;have HW3:=hJ (HW.out.trans (hb3.mono HW.out.size));have g0:=kAG y0 _ hb3;have g1:=kAG y1 _ hb3;have HX43:=hJ (HX4.out.below hb3 hl4);have hl43:=HX43.out.lt;clear y0 y1 hb3 HX4;by_cases he:s.row.toList.isEmpty=true
 · have HR:Hid (kHJ b s=⟨s.row,[]⟩):=hJ (by rw [HRow.out,if_pos he])
   generalize kB2 b 2 s.row=q at *
   go_wp2_with fail
   go_loopw [7,51] (fun v i wr=>∃ (k:Nat) (v0:Value),k≤n∧i= .int .i64 k∧v0=v∧Hid (∀ i,i<k→kAC (kAM b (s.dims.getD i default))=true)∧Hid (Own RLin 49 (fun q=>w3.heap.size≤q) wr w3.heap.size v ((s.dims.take k).map (kAM b)))∧Below w3.heap.size w3 wr) (fun _ i _=>n - (intOf i).toNat)
   case atStart=>exact ⟨0,_,Nat.zero_le _,rfl,rfl,hJ (fun i hi=>absurd hi (by omega)),hJ (Own.nil _ _ _ _ _),Below.refl _ _⟩
   case round =>
    obtain ⟨k,v0,hk,rfl,rfl,HT,HO,hB⟩:=hrel;by_cases hlt:k<n
    · obtain ⟨b1,off,rfl,hbW,_⟩:=HDs.out.form k hlt
      have HBw:=hJ (HW3.out.trans (hB.mono HW3.out.size));obtain ⟨t,hr,⟨at_,ct,rfl,hts⟩,c0,c1⟩:=(HDs.out.below HBw.out).lin k hlt;have HK:Hid (k<s.dims.length):=hJ (by rw [HND.out];exact hlt);have HNext:Hid ((s.dims.take (k+1)).map (kAM b)=(s.dims.take k).map (kAM b)++[kAM b (s.dims.getD k default)]):=hJ (by rw [kBB HK.out,List.map_append];rfl);have hkl:((s.dims.take k).map (kAM b)).length=k:=by rw [List.length_map,List.length_take,HND.out];omega
      have HBk:=hJ (HBad.out k hlt);have HUp:=hJ (fun q=>upto HT.out (p:=fun j=>kAC (kAM b (s.dims.getD j default))=true) q);have HXv:=hJ (HD.out.2 _ (kAJ HK.out));have HC:=hJ (fun (W':World) (hW':Below wr.heap.size wr W')=>kFK (RLin.below hr hW') HXv.out b _ nb cb (HBS.out.below (HBw.out.trans (hW'.mono HBw.out.size))) HG.out (EE.out.below (HBw.out.trans (hW'.mono HBw.out.size))));clear hr hts;generalize s.dims.getD k default=x at *;generalize (s.dims.take k).map (kAM b)=lk at *;have hA:Below wr.heap.size wr (wr.alloc (.cells #[.int .i64 x.const,.slice at_ x.terms.length ct] 49)):=(Below.refl _ _).alloc (Nat.le_refl _) _;have HCx:=hJ (HC.out _ hA);have hX43w:=HX43.out.below hB hl43;by_cases hvx:kAC (kAM b x)=true
      · obtain ⟨e1,e2⟩:=kJ4 hvx
        rw [e1,e2] at HCx;have HUp:=hJ (HUp.out hvx);clear e1 e2 hvx
        go_wp2_with fail
        refine HCx.out.mono ?_;rintro e w5 ⟨⟨_,rfl,hr5⟩,hb5⟩;obtain ⟨_,rfl,a5,c5,rfl,hs5⟩:=hr5;have HB5:Hid (Below wr.heap.size wr w5):=hJ (hA.trans (hb5.mono (by simp)));have hsz5:w3.heap.size≤w5.heap.size:=by have h1:=HB5.out.size;have h2:=hB.size;omega
        have HRY:Hid (RLin.rd (fun q=>w3.heap.size≤q∧v0.ownBlock≠some q) w5 [.int .i64 (kAM b x).const,.slice a5 (kAM b x).terms.length c5] (kAM b x)):=hJ ⟨_,rfl,a5,c5,rfl,hs5.mono (fun q hq _=>by
         have hq:wr.heap.size+1≤q:=by simpa using hq
         refine ⟨by have:=hB.size;omega,fun e=>?_⟩;have:=(HO.out.block e).2;omega)⟩
        go_wp2_with (at_builtin;refine kA4 kFA rfl _ _ rfl w3.heap.size _ _ rfl (((HO.out.below HB5.out).alloc _).alloc _) _ (kAM b x) [.int .i64 (kAM b x).const,.slice a5 (kAM b x).terms.length c5] rfl (RLin.below HRY.out (((Below.refl _ _).alloc (Nat.le_refl _) _).alloc (by simp) _)) (kA6 49 (by (simp only [kAK,kAI,Array.getElem?_push,Array.size_push];simp))) (by omega) (by unfold maxLen;omega) (by simp;omega) ?_;intro v9 w9 hown9 hb9 hk9)
        go_roundw
        case rel=>exact ⟨k+1,_,by omega,by go_num,rfl,HUp,hJ (by rw [HNext.out];exact hown9),(hB.trans (HB5.out.mono hB.size)).trans ((((Below.refl _ _).alloc hsz5 _).alloc (by simp;omega) _).trans hb9)⟩
        case measure=>simp [intOf];omega
      · have hvx:kAC (kAM b x)=false:=by simpa using hvx
        obtain ⟨e1,e2⟩:=lim_bad hvx;rw [e1,e2] at HCx;obtain ⟨z1,z2⟩:=HBk.out hvx;have HZ1:=hJ z1;have HZ2:=hJ z2;clear e1 e2 hvx z1 z2
        go_wp2_with fail
        refine HCx.out.mono ?_;rintro e w5 ⟨⟨_,rfl,hr5⟩,hb5⟩;obtain ⟨_,rfl,a5,c5,rfl,hs5⟩:=hr5;have HB5:Hid (Below wr.heap.size wr w5):=hJ (hA.trans (hb5.mono (by simp)));have HX45:=hJ (hX43w.below HB5.out hX43w.lt);have hx45:=HX45.out.lt;have u0:=HX45.out.cell 0 _ rfl;have u1:=HX45.out.cell 1 _ rfl;have u2:=HX45.out.fz 0;have u3:=HX45.out.fz 1;have HX60:=hJ ((HX45.out.set 0 (.string ⟨#[]⟩)).set 1 (.slice none 0 0));have s0:=HX60.out.cell 0 _ rfl;have s1:=HX60.out.cell 1 _ rfl
        go_wp2_with fail
        refine bodyPost_ret (v:=.tuple #[.agg #[.string ⟨#[]⟩,.slice none 0 0],.int .i64 3]) (by simp [results,results188,go_sem,s0,s1,hx45]) rfl ?_;refine ⟨⟨[.string ⟨#[]⟩,.slice none 0 0],by rw [HZ2.out],by rw [HZ1.out];exact ⟨_,rfl,none,0,rfl,Sl.empty _ _ _⟩⟩,?_⟩;exact (((HBw.out.trans (HB5.out.mono HBw.out.size)).setCell (by show _≤w.heap.size+1;omega) _).setCell (by show _≤w.heap.size+1;omega) _).alloc (by simp;omega) _
    · obtain rfl:k=n:=by omega
      have HAll:Hid ((s.dims.take k).map (kAM b)=s.dims.map (kAM b)):=hJ (by rw [List.take_of_length_le (by rw [HND.out];exact Nat.le_refl _)]);obtain ⟨z1,z2⟩:=HGood.out HT.out;rw [HR.out] at z1;have HZ1:=hJ z1;have HZ2:=hJ z2;rw [HAll.out] at HO;obtain ⟨av,cv,rfl,hsv⟩:=HO.out.sl;have hkl:(s.dims.map (kAM b)).length=k:=by rw [List.length_map,HND.out]
      rw [hkl] at hsv ⊢;have HBw:=hJ (HW3.out.trans (hB.mono HW3.out.size))
      have HCM:=hJ (shape_made s.row (s.dims.map (kAM b)) av k cv wr hsv hd6 (fun x hx=>by
       obtain ⟨y,hy,rfl⟩:=List.mem_map.1 hx;obtain ⟨i,hi,e⟩:=List.getElem_of_mem hy;have:=HT.out i (by rw [← HND.out];exact hi);rw [List.getD_eq_getElem?_getD,List.getElem?_eq_getElem hi] at this;have h2:=kDI this;rw [← e];exact Nat.le_trans h2 (by decide)))
      have hX43w:=hJ (HX43.out.below hB hl43);clear hsv z1 z2 hkl
      go_wp2_with fail
      refine HCM.out.mono ?_;rintro e w5 ⟨⟨_,rfl,hr5⟩,hb5⟩;obtain ⟨_,rfl,a5,c5,rfl,hs5⟩:=hr5;have HX45:=hJ (hX43w.out.below hb5 hX43w.out.lt);have u0:=HX45.out.cell 0 _ rfl;have u1:=HX45.out.cell 1 _ rfl;have u2:=HX45.out.fz 0;have u3:=HX45.out.fz 1;have HS5:=hJ hs5;clear hs5;have hll:(s.dims.map (kAM b)).length=(s.dims.map (kAM b)).length:=rfl;generalize hLL:(s.dims.map (kAM b)).length=LL at *;have HLL:=hJ hLL;clear hll hLL;have HX60:=hJ ((HX45.out.set 0 (.string s.row)).set 1 (.slice a5 LL c5));have s0:=HX60.out.cell 0 _ rfl;have s1:=HX60.out.cell 1 _ rfl
      go_wp2_with fail
      refine bodyPost_ret (v:=.tuple #[.agg #[.string s.row,.slice a5 LL c5],.int .i64 0]) (by simp [results,results188,go_sem,s0,s1]) rfl ?_;refine ⟨⟨[.string s.row,.slice a5 LL c5],by rw [HZ2.out],?_⟩,?_⟩
      · rw [HZ1.out]
        refine ⟨_,rfl,a5,c5,by rw [← HLL.out],?_⟩;have h1:=HS5.out;rw [← HLL.out] at h1;refine (h1.frame fun q hq _=>?_).mono (fun q hq _=>by have:=HBw.out.size;omega);rw [kAB (by have:=HBw.out.size;have:=hX43w.out.lt;show w.heap.size+1≠q;omega),kAB (by have:=hX43w.out.lt;show w.heap.size+1≠q;omega)]
      · exact ((HBw.out.trans (hb5.mono HBw.out.size)).setCell (by show _≤w.heap.size+1;omega) _).setCell (by show _≤w.heap.size+1;omega) _
 · have he2:s.row.toList.isEmpty=false:=by simpa using he
   by_cases hq:0≤kB2 b 2 s.row
   · obtain ⟨kk,hkk,hkl⟩:=HFnd.out hq
     have hkn:kk<nb:=by rw [← HBS.out.len];exact hkl
     have HPk:=hJ (HP.out _ (kAJ hkl));have HR0:Hid (kHJ b s=(b.getD kk default).row):=hJ (by rw [HRow.out,if_neg he,if_pos hq,hkk];rfl);rw [hkk];clear hq he HFnd HRow hkk;obtain ⟨bb,boff,rfl,hbb,hSb⟩:=HBS.out.form kk hkn;obtain ⟨td,dd,hr,⟨⟨at1,ct1,rfl,_⟩,⟨ad1,cd1,rfl,_⟩⟩,e0,e1,e2,e3,e4,e5,e6⟩:=(HBS.out.below HW3.out).bnd kk hkn;rw [HPk.out] at e5;have HR:Hid (kHJ b s=⟨(b.getD kk default).row.row,[]⟩):=hJ (by rw [HR0.out];have:=HPk.out;revert this;generalize (b.getD kk default).row=rr;intro this;cases rr;simp_all);generalize (b.getD kk default).row.row=rr at *;have e4:=Later.cell e4;have e5:=Later.cell e5;clear hr e0 e1 e2 e3 e6;have hkn2:(kk:Int)<(nb:Int):=by omega
     go_wp2_with fail
     refine kAA (by kernel_rfl) (by kernel_rfl) ?_
     repeat (go_big_quiet_step (first | fail | exact Later.same (clones_none (S:=S) _ _ _)))
     refine wpQuiet_nil ?_;rintro _ ⟨t9,rfl⟩;have HB4:Hid (Below w3.heap.size w3 t9.w):=hJ t9.b;generalize t9.w=w4 at *;have HW4:=hJ (HW3.out.trans (HB4.out.mono HW3.out.size));have HX44:=hJ (HX43.out.below HB4.out hl43);have g1b:=kAG g1 _ HB4.out;clear HW3 HX43 hl43 g0 g1;have HW3:=HW4;have HX43:=HX44;have hl43:=HX44.out.lt;have g1:=g1b;clear HW4 HX44 g1b
     go_wp2_with fail
     go_loopw [7,51] (fun v i wr=>∃ (k:Nat) (v0:Value),k≤n∧i= .int .i64 k∧v0=v∧Hid (∀ i,i<k→kAC (kAM b (s.dims.getD i default))=true)∧Hid (Own RLin 49 (fun q=>w4.heap.size≤q) wr w4.heap.size v ((s.dims.take k).map (kAM b)))∧Below w4.heap.size w4 wr) (fun _ i _=>n - (intOf i).toNat)
     case atStart=>exact ⟨0,_,Nat.zero_le _,rfl,rfl,hJ (fun i hi=>absurd hi (by omega)),hJ (Own.nil _ _ _ _ _),Below.refl _ _⟩
     case round =>
      obtain ⟨k,v0,hk,rfl,rfl,HT,HO,hB⟩:=hrel;by_cases hlt:k<n
      · obtain ⟨b1,off,rfl,hbW,_⟩:=HDs.out.form k hlt
        have HBw:=hJ (HW3.out.trans (hB.mono HW3.out.size));obtain ⟨t,hr,⟨at_,ct,rfl,hts⟩,c0,c1⟩:=(HDs.out.below HBw.out).lin k hlt;have HK:Hid (k<s.dims.length):=hJ (by rw [HND.out];exact hlt);have HNext:Hid ((s.dims.take (k+1)).map (kAM b)=(s.dims.take k).map (kAM b)++[kAM b (s.dims.getD k default)]):=hJ (by rw [kBB HK.out,List.map_append];rfl);have hkl:((s.dims.take k).map (kAM b)).length=k:=by rw [List.length_map,List.length_take,HND.out];omega
        have HBk:=hJ (HBad.out k hlt);have HUp:=hJ (fun q=>upto HT.out (p:=fun j=>kAC (kAM b (s.dims.getD j default))=true) q);have HXv:=hJ (HD.out.2 _ (kAJ HK.out));have HC:=hJ (fun (W':World) (hW':Below wr.heap.size wr W')=>kFK (RLin.below hr hW') HXv.out b _ nb cb (HBS.out.below (HBw.out.trans (hW'.mono HBw.out.size))) HG.out (EE.out.below (HBw.out.trans (hW'.mono HBw.out.size))));clear hr hts;generalize s.dims.getD k default=x at *;generalize (s.dims.take k).map (kAM b)=lk at *;have hA:Below wr.heap.size wr (wr.alloc (.cells #[.int .i64 x.const,.slice at_ x.terms.length ct] 49)):=(Below.refl _ _).alloc (Nat.le_refl _) _;have HCx:=hJ (HC.out _ hA);have hX43w:=HX43.out.below hB hl43;by_cases hvx:kAC (kAM b x)=true
        · obtain ⟨e1,e2⟩:=kJ4 hvx
          rw [e1,e2] at HCx;have HUp:=hJ (HUp.out hvx);clear e1 e2 hvx
          go_wp2_with fail
          refine HCx.out.mono ?_;rintro e w5 ⟨⟨_,rfl,hr5⟩,hb5⟩;obtain ⟨_,rfl,a5,c5,rfl,hs5⟩:=hr5;have HB5:Hid (Below wr.heap.size wr w5):=hJ (hA.trans (hb5.mono (by simp)));have hsz5:w4.heap.size≤w5.heap.size:=by have h1:=HB5.out.size;have h2:=hB.size;omega
          have HRY:Hid (RLin.rd (fun q=>w4.heap.size≤q∧v0.ownBlock≠some q) w5 [.int .i64 (kAM b x).const,.slice a5 (kAM b x).terms.length c5] (kAM b x)):=hJ ⟨_,rfl,a5,c5,rfl,hs5.mono (fun q hq _=>by
           have hq:wr.heap.size+1≤q:=by simpa using hq
           refine ⟨by have:=hB.size;omega,fun e=>?_⟩;have:=(HO.out.block e).2;omega)⟩
          go_wp2_with (at_builtin;refine kA4 kFA rfl _ _ rfl w4.heap.size _ _ rfl (((HO.out.below HB5.out).alloc _).alloc _) _ (kAM b x) [.int .i64 (kAM b x).const,.slice a5 (kAM b x).terms.length c5] rfl (RLin.below HRY.out (((Below.refl _ _).alloc (Nat.le_refl _) _).alloc (by simp) _)) (kA6 49 (by (simp only [kAK,kAI,Array.getElem?_push,Array.size_push];simp))) (by omega) (by unfold maxLen;omega) (by simp;omega) ?_;intro v9 w9 hown9 hb9 hk9)
          go_roundw
          case rel=>exact ⟨k+1,_,by omega,by go_num,rfl,HUp,hJ (by rw [HNext.out];exact hown9),(hB.trans (HB5.out.mono hB.size)).trans ((((Below.refl _ _).alloc hsz5 _).alloc (by simp;omega) _).trans hb9)⟩
          case measure=>simp [intOf];omega
        · have hvx:kAC (kAM b x)=false:=by simpa using hvx
          obtain ⟨e1,e2⟩:=lim_bad hvx;rw [e1,e2] at HCx;obtain ⟨z1,z2⟩:=HBk.out hvx;have HZ1:=hJ z1;have HZ2:=hJ z2;clear e1 e2 hvx z1 z2
          go_wp2_with fail
          refine HCx.out.mono ?_;rintro e w5 ⟨⟨_,rfl,hr5⟩,hb5⟩;obtain ⟨_,rfl,a5,c5,rfl,hs5⟩:=hr5;have HB5:Hid (Below wr.heap.size wr w5):=hJ (hA.trans (hb5.mono (by simp)));have HX45:=hJ (hX43w.below HB5.out hX43w.lt);have hx45:=HX45.out.lt;have u0:=HX45.out.cell 0 _ rfl;have u1:=HX45.out.cell 1 _ rfl;have u2:=HX45.out.fz 0;have u3:=HX45.out.fz 1;have HX60:=hJ ((HX45.out.set 0 (.string ⟨#[]⟩)).set 1 (.slice none 0 0));have s0:=HX60.out.cell 0 _ rfl;have s1:=HX60.out.cell 1 _ rfl
          go_wp2_with fail
          refine bodyPost_ret (v:=.tuple #[.agg #[.string ⟨#[]⟩,.slice none 0 0],.int .i64 3]) (by simp [results,results188,go_sem,s0,s1,hx45]) rfl ?_;refine ⟨⟨[.string ⟨#[]⟩,.slice none 0 0],by rw [HZ2.out],by rw [HZ1.out];exact ⟨_,rfl,none,0,rfl,Sl.empty _ _ _⟩⟩,?_⟩;exact (((HBw.out.trans (HB5.out.mono HBw.out.size)).setCell (by show _≤w.heap.size+1;omega) _).setCell (by show _≤w.heap.size+1;omega) _).alloc (by simp;omega) _
      · obtain rfl:k=n:=by omega
        have HAll:Hid ((s.dims.take k).map (kAM b)=s.dims.map (kAM b)):=hJ (by rw [List.take_of_length_le (by rw [HND.out];exact Nat.le_refl _)]);obtain ⟨z1,z2⟩:=HGood.out HT.out;rw [HR.out] at z1;have HZ1:=hJ z1;have HZ2:=hJ z2;rw [HAll.out] at HO;obtain ⟨av,cv,rfl,hsv⟩:=HO.out.sl;have hkl:(s.dims.map (kAM b)).length=k:=by rw [List.length_map,HND.out]
        rw [hkl] at hsv ⊢;have HBw:=hJ (HW3.out.trans (hB.mono HW3.out.size))
        have HCM:=hJ (shape_made rr (s.dims.map (kAM b)) av k cv wr hsv hd6 (fun x hx=>by
         obtain ⟨y,hy,rfl⟩:=List.mem_map.1 hx;obtain ⟨i,hi,e⟩:=List.getElem_of_mem hy;have:=HT.out i (by rw [← HND.out];exact hi);rw [List.getD_eq_getElem?_getD,List.getElem?_eq_getElem hi] at this;have h2:=kDI this;rw [← e];exact Nat.le_trans h2 (by decide)))
        have hX43w:=hJ (HX43.out.below hB hl43);clear hsv z1 z2 hkl
        go_wp2_with fail
        refine HCM.out.mono ?_;rintro e w5 ⟨⟨_,rfl,hr5⟩,hb5⟩;obtain ⟨_,rfl,a5,c5,rfl,hs5⟩:=hr5;have HX45:=hJ (hX43w.out.below hb5 hX43w.out.lt);have u0:=HX45.out.cell 0 _ rfl;have u1:=HX45.out.cell 1 _ rfl;have u2:=HX45.out.fz 0;have u3:=HX45.out.fz 1;have HS5:=hJ hs5;clear hs5;have hll:(s.dims.map (kAM b)).length=(s.dims.map (kAM b)).length:=rfl;generalize hLL:(s.dims.map (kAM b)).length=LL at *;have HLL:=hJ hLL;clear hll hLL;have HX60:=hJ ((HX45.out.set 0 (.string rr)).set 1 (.slice a5 LL c5));have s0:=HX60.out.cell 0 _ rfl;have s1:=HX60.out.cell 1 _ rfl
        go_wp2_with fail
        refine bodyPost_ret (v:=.tuple #[.agg #[.string rr,.slice a5 LL c5],.int .i64 0]) (by simp [results,results188,go_sem,s0,s1]) rfl ?_;refine ⟨⟨[.string rr,.slice a5 LL c5],by rw [HZ2.out],?_⟩,?_⟩
        · rw [HZ1.out]
          refine ⟨_,rfl,a5,c5,by rw [← HLL.out],?_⟩;have h1:=HS5.out;rw [← HLL.out] at h1;refine (h1.frame fun q hq _=>?_).mono (fun q hq _=>by have:=HBw.out.size;omega);rw [kAB (by have:=HBw.out.size;have:=hX43w.out.lt;show w.heap.size+1≠q;omega),kAB (by have:=hX43w.out.lt;show w.heap.size+1≠q;omega)]
        · exact ((HBw.out.trans (hb5.mono HBw.out.size)).setCell (by show _≤w.heap.size+1;omega) _).setCell (by show _≤w.heap.size+1;omega) _
   · have HR:Hid (kHJ b s=⟨s.row,[]⟩):=hJ (by rw [HRow.out,if_neg he,if_neg hq])
     have hq2:kB2 b 2 s.row<0:=by omega
     clear hq he HFnd HRow;generalize kB2 b 2 s.row=q at *
     go_wp2_with fail
     go_loopw [7,51] (fun v i wr=>∃ (k:Nat) (v0:Value),k≤n∧i= .int .i64 k∧v0=v∧Hid (∀ i,i<k→kAC (kAM b (s.dims.getD i default))=true)∧Hid (Own RLin 49 (fun q=>w3.heap.size≤q) wr w3.heap.size v ((s.dims.take k).map (kAM b)))∧Below w3.heap.size w3 wr) (fun _ i _=>n - (intOf i).toNat)
     case atStart=>exact ⟨0,_,Nat.zero_le _,rfl,rfl,hJ (fun i hi=>absurd hi (by omega)),hJ (Own.nil _ _ _ _ _),Below.refl _ _⟩
     case round =>
      obtain ⟨k,v0,hk,rfl,rfl,HT,HO,hB⟩:=hrel;by_cases hlt:k<n
      · obtain ⟨b1,off,rfl,hbW,_⟩:=HDs.out.form k hlt
        have HBw:=hJ (HW3.out.trans (hB.mono HW3.out.size));obtain ⟨t,hr,⟨at_,ct,rfl,hts⟩,c0,c1⟩:=(HDs.out.below HBw.out).lin k hlt;have HK:Hid (k<s.dims.length):=hJ (by rw [HND.out];exact hlt);have HNext:Hid ((s.dims.take (k+1)).map (kAM b)=(s.dims.take k).map (kAM b)++[kAM b (s.dims.getD k default)]):=hJ (by rw [kBB HK.out,List.map_append];rfl);have hkl:((s.dims.take k).map (kAM b)).length=k:=by rw [List.length_map,List.length_take,HND.out];omega
        have HBk:=hJ (HBad.out k hlt);have HUp:=hJ (fun q=>upto HT.out (p:=fun j=>kAC (kAM b (s.dims.getD j default))=true) q);have HXv:=hJ (HD.out.2 _ (kAJ HK.out));have HC:=hJ (fun (W':World) (hW':Below wr.heap.size wr W')=>kFK (RLin.below hr hW') HXv.out b _ nb cb (HBS.out.below (HBw.out.trans (hW'.mono HBw.out.size))) HG.out (EE.out.below (HBw.out.trans (hW'.mono HBw.out.size))));clear hr hts;generalize s.dims.getD k default=x at *;generalize (s.dims.take k).map (kAM b)=lk at *;have hA:Below wr.heap.size wr (wr.alloc (.cells #[.int .i64 x.const,.slice at_ x.terms.length ct] 49)):=(Below.refl _ _).alloc (Nat.le_refl _) _;have HCx:=hJ (HC.out _ hA);have hX43w:=HX43.out.below hB hl43;by_cases hvx:kAC (kAM b x)=true
        · obtain ⟨e1,e2⟩:=kJ4 hvx
          rw [e1,e2] at HCx;have HUp:=hJ (HUp.out hvx);clear e1 e2 hvx
          go_wp2_with fail
          refine HCx.out.mono ?_;rintro e w5 ⟨⟨_,rfl,hr5⟩,hb5⟩;obtain ⟨_,rfl,a5,c5,rfl,hs5⟩:=hr5;have HB5:Hid (Below wr.heap.size wr w5):=hJ (hA.trans (hb5.mono (by simp)));have hsz5:w3.heap.size≤w5.heap.size:=by have h1:=HB5.out.size;have h2:=hB.size;omega
          have HRY:Hid (RLin.rd (fun q=>w3.heap.size≤q∧v0.ownBlock≠some q) w5 [.int .i64 (kAM b x).const,.slice a5 (kAM b x).terms.length c5] (kAM b x)):=hJ ⟨_,rfl,a5,c5,rfl,hs5.mono (fun q hq _=>by
           have hq:wr.heap.size+1≤q:=by simpa using hq
           refine ⟨by have:=hB.size;omega,fun e=>?_⟩;have:=(HO.out.block e).2;omega)⟩
          go_wp2_with (at_builtin;refine kA4 kFA rfl _ _ rfl w3.heap.size _ _ rfl (((HO.out.below HB5.out).alloc _).alloc _) _ (kAM b x) [.int .i64 (kAM b x).const,.slice a5 (kAM b x).terms.length c5] rfl (RLin.below HRY.out (((Below.refl _ _).alloc (Nat.le_refl _) _).alloc (by simp) _)) (kA6 49 (by (simp only [kAK,kAI,Array.getElem?_push,Array.size_push];simp))) (by omega) (by unfold maxLen;omega) (by simp;omega) ?_;intro v9 w9 hown9 hb9 hk9)
          go_roundw
          case rel=>exact ⟨k+1,_,by omega,by go_num,rfl,HUp,hJ (by rw [HNext.out];exact hown9),(hB.trans (HB5.out.mono hB.size)).trans ((((Below.refl _ _).alloc hsz5 _).alloc (by simp;omega) _).trans hb9)⟩
          case measure=>simp [intOf];omega
        · have hvx:kAC (kAM b x)=false:=by simpa using hvx
          obtain ⟨e1,e2⟩:=lim_bad hvx;rw [e1,e2] at HCx;obtain ⟨z1,z2⟩:=HBk.out hvx;have HZ1:=hJ z1;have HZ2:=hJ z2;clear e1 e2 hvx z1 z2
          go_wp2_with fail
          refine HCx.out.mono ?_;rintro e w5 ⟨⟨_,rfl,hr5⟩,hb5⟩;obtain ⟨_,rfl,a5,c5,rfl,hs5⟩:=hr5;have HB5:Hid (Below wr.heap.size wr w5):=hJ (hA.trans (hb5.mono (by simp)));have HX45:=hJ (hX43w.below HB5.out hX43w.lt);have hx45:=HX45.out.lt;have u0:=HX45.out.cell 0 _ rfl;have u1:=HX45.out.cell 1 _ rfl;have u2:=HX45.out.fz 0;have u3:=HX45.out.fz 1;have HX60:=hJ ((HX45.out.set 0 (.string ⟨#[]⟩)).set 1 (.slice none 0 0));have s0:=HX60.out.cell 0 _ rfl;have s1:=HX60.out.cell 1 _ rfl
          go_wp2_with fail
          refine bodyPost_ret (v:=.tuple #[.agg #[.string ⟨#[]⟩,.slice none 0 0],.int .i64 3]) (by simp [results,results188,go_sem,s0,s1,hx45]) rfl ?_;refine ⟨⟨[.string ⟨#[]⟩,.slice none 0 0],by rw [HZ2.out],by rw [HZ1.out];exact ⟨_,rfl,none,0,rfl,Sl.empty _ _ _⟩⟩,?_⟩;exact (((HBw.out.trans (HB5.out.mono HBw.out.size)).setCell (by show _≤w.heap.size+1;omega) _).setCell (by show _≤w.heap.size+1;omega) _).alloc (by simp;omega) _
      · obtain rfl:k=n:=by omega
        have HAll:Hid ((s.dims.take k).map (kAM b)=s.dims.map (kAM b)):=hJ (by rw [List.take_of_length_le (by rw [HND.out];exact Nat.le_refl _)]);obtain ⟨z1,z2⟩:=HGood.out HT.out;rw [HR.out] at z1;have HZ1:=hJ z1;have HZ2:=hJ z2;rw [HAll.out] at HO;obtain ⟨av,cv,rfl,hsv⟩:=HO.out.sl;have hkl:(s.dims.map (kAM b)).length=k:=by rw [List.length_map,HND.out]
        rw [hkl] at hsv ⊢;have HBw:=hJ (HW3.out.trans (hB.mono HW3.out.size))
        have HCM:=hJ (shape_made s.row (s.dims.map (kAM b)) av k cv wr hsv hd6 (fun x hx=>by
         obtain ⟨y,hy,rfl⟩:=List.mem_map.1 hx;obtain ⟨i,hi,e⟩:=List.getElem_of_mem hy;have:=HT.out i (by rw [← HND.out];exact hi);rw [List.getD_eq_getElem?_getD,List.getElem?_eq_getElem hi] at this;have h2:=kDI this;rw [← e];exact Nat.le_trans h2 (by decide)))
        have hX43w:=hJ (HX43.out.below hB hl43);clear hsv z1 z2 hkl
        go_wp2_with fail
        refine HCM.out.mono ?_;rintro e w5 ⟨⟨_,rfl,hr5⟩,hb5⟩;obtain ⟨_,rfl,a5,c5,rfl,hs5⟩:=hr5;have HX45:=hJ (hX43w.out.below hb5 hX43w.out.lt);have u0:=HX45.out.cell 0 _ rfl;have u1:=HX45.out.cell 1 _ rfl;have u2:=HX45.out.fz 0;have u3:=HX45.out.fz 1;have HS5:=hJ hs5;clear hs5;have hll:(s.dims.map (kAM b)).length=(s.dims.map (kAM b)).length:=rfl;generalize hLL:(s.dims.map (kAM b)).length=LL at *;have HLL:=hJ hLL;clear hll hLL;have HX60:=hJ ((HX45.out.set 0 (.string s.row)).set 1 (.slice a5 LL c5));have s0:=HX60.out.cell 0 _ rfl;have s1:=HX60.out.cell 1 _ rfl
        go_wp2_with fail
        refine bodyPost_ret (v:=.tuple #[.agg #[.string s.row,.slice a5 LL c5],.int .i64 0]) (by simp [results,results188,go_sem,s0,s1]) rfl ?_;refine ⟨⟨[.string s.row,.slice a5 LL c5],by rw [HZ2.out],?_⟩,?_⟩
        · rw [HZ1.out]
          refine ⟨_,rfl,a5,c5,by rw [← HLL.out],?_⟩;have h1:=HS5.out;rw [← HLL.out] at h1;refine (h1.frame fun q hq _=>?_).mono (fun q hq _=>by have:=HBw.out.size;omega);rw [kAB (by have:=HBw.out.size;have:=hX43w.out.lt;show w.heap.size+1≠q;omega),kAB (by have:=hX43w.out.lt;show w.heap.size+1≠q;omega)]
        · exact ((HBw.out.trans (hb5.mono HBw.out.size)).setCell (by show _≤w.heap.size+1;omega) _).setCell (by show _≤w.heap.size+1;omega) _
theorem typ_shp {x:Typ} (h:kAE x=true):kAF x.shape=true:=by unfold kAE at h;rw [Bool.and_eq_true] at h;exact h.2
theorem kHI {b:List Bnd} {x:Typ} (h:kBJ b x.shape=true):subTyp b x=kBZ b x∧kE3 b x.shape=0∧kJM b x.shape=subShpR b x.shape:=by
 unfold subTyp kE3 kJM;rw [h];exact ⟨rfl,rfl,rfl⟩
theorem kED {b:List Bnd} {x:Typ} (h:kBJ b x.shape=false):subTyp b x=kBL∧kE3 b x.shape=3∧kJM b x.shape=kDE:=by
 unfold subTyp kE3 kJM;rw [h];exact ⟨rfl,rfl,rfl⟩
theorem find_nat {b:List Bnd} {k:Int} {v:Str} (q:0≤kB2 b k v):∃ i:Nat,kB2 b k v=(i:Int)∧i<b.length:=by
 unfold kB2 idx at q ⊢;by_cases ha:b.any (isB k v)=true
 · rw [if_pos ha] at q ⊢
   exact ⟨b.findIdx (isB k v),rfl,(any_hit ha).1⟩
 · rw [if_neg ha] at q;omega
theorem Sl.set {α :Type} {R:Rep α} {S:Blk} {w:World} {a:Option Addr} {n c:Nat} {l:List α} (h:Sl R S w a n c l) {ad:Addr} {u:Value} (hne:∀ q,S q→ad.block≠q):Sl R S (w.setCell ad u) a n c l:=h.frame (fun q hq _=>kAB (hne q hq))
theorem types_Subst {S T:Blk} {x:Typ} {cs:List Value} {w:World} (h:RTyp.rd S w cs x) (hv:kAE x=true) (b:List Bnd) (a:Option Addr) (nb cb:Nat) (hbs:Sl RBnd T w a nb cb b) (hb:kCU b=true) (hp:PlainB b) (E:Env w) :
 Calls Tryz.prog 133 #[.agg cs.toArray,.slice a nb cb] w fun e w'=>(∃ ds,e= .returned (.tuple #[.agg ds.toArray,.int .i64 (kE3 b x.shape)])∧RTyp.rd (fun k=>w.heap.size≤k) w' ds (subTyp b x))∧Below w.heap.size w w':=by
 have hvs:=typ_shp hv
 have HCV:Hid (∀ W,Below w.heap.size w W→Calls Tryz.prog 81 #[.agg cs.toArray] W fun e w'=>e= .returned (.bool true)∧Below W.heap.size W w') :=
  hJ (fun W hW=>hv ▸ kD1 (RTyp.below h hW) (typ_sz hv) (E.below hW))
 have HCB:Hid (∀ W,Below w.heap.size w W→Calls Tryz.prog 132 #[.slice a nb cb] W fun e w'=>e= .returned (.bool true)∧Below W.heap.size W w') :=
  hJ (fun W hW=>kEL b a nb cb W (hbs.below hW) hb (E.below hW))
 have HCS:=hJ (fun (W:World) (hW:Below w.heap.size w W)=>shape_Subst (S:=S) (s:=x.shape) (cs:=(cs.drop 1)) (w:=W) (by obtain ⟨t,rfl,ht⟩:=h;exact ⟨t,rfl,ht⟩ |> fun q=>RShp.below q hW) hvs b a nb cb (hbs.below hW) hb hp (E.below hW));obtain ⟨_,rfl,ad,cd,rfl,hds⟩:=h;have HBS:=hJ hbs;clear hds hbs hv hb hp;obtain ⟨B0,ya,yb,hW0⟩:=box2 w 54 [.string x.elem,.string x.shape.row,.slice ad x.shape.dims.length cd] 54 [.string ⟨#[]⟩,.string ⟨#[]⟩,.slice none 0 0];have xa0:=box0 ya 0 _ rfl;have xa1:=box0 ya 1 _ rfl;have xa2:=box0 ya 2 _ rfl;have xb0:=box0 yb 0 _ rfl;have xb1:=box0 yb 1 _ rfl;have xb2:=box0 yb 2 _ rfl;have bka:Bx _ _ _ _:=ya;have bkb:Bx _ _ _ _:=yb;clear ya yb;generalize x.shape.dims.length=nd at *;have HA0:=hJ bka;have HR0:=hJ bkb;clear bka bkb;go_enter func133,ntmps133
 go_wp2_with fail
 refine (HCV.out _ B0.out).mono ?_;rintro e w1 ⟨rfl,hb1⟩;have hW1:=B0.out.trans (hb1.mono B0.out.size)
 go_wp2_with fail
 refine (HCB.out _ hW1).mono ?_;rintro e w2 ⟨rfl,hb2⟩;have HW:=hJ (hW1.trans (hb2.mono hW1.size));have HA2:=hJ ((HA0.out.below hb1 HA0.out.lt).below hb2 (HA0.out.below hb1 HA0.out.lt).lt);have HR2:=hJ ((HR0.out.below hb1 HR0.out.lt).below hb2 (HR0.out.below hb1 HR0.out.lt).lt);have y0:=HA2.out.cell 0 _ rfl;have y1:=HA2.out.cell 1 _ rfl;have y2:=HA2.out.cell 2 _ rfl;have hl2:=HR2.out.lt;clear xa0 xa1 xa2 xb0 xb1 xb2 hb1 hb2 hW1 HR0 HA0 B0 HCV HCB
 go_wp2_with fail
 refine (HCS.out _ HW.out).mono ?_;rintro e w3 ⟨⟨_,rfl,hr3⟩,hb3⟩;obtain ⟨_,rfl,a5,c5,rfl,hs5⟩:=hr3;have HW3:=hJ (HW.out.trans (hb3.mono HW.out.size));have HA3:=hJ (HA2.out.below hb3 HA2.out.lt);have HR3:=hJ (HR2.out.below hb3 HR2.out.lt);have HS3:=hJ (hs5.mono (S':=fun k=>w.heap.size+2≤k∧k<w3.heap.size) (fun q hq hlt=>by have hq:w2.heap.size≤q:=hq;exact ⟨by omega,hlt⟩));have hl3:=HR3.out.lt;clear hs5 hb3 HA2 HR2 y0 y1 y2 HCS HW hW0;cases hok:kBJ b x.shape with
 | false =>
    have HF:Hid (subTyp b x=kBL∧kE3 b x.shape=3):=hJ ⟨(kED hok).1,(kED hok).2.1⟩;have u0:=HR3.out.fz 0;have u1:=HR3.out.fz 1;have u2:=HR3.out.fz 2;have v0:=HR3.out.cell 0 _ rfl;have v1:=HR3.out.cell 1 _ rfl;have v2:=HR3.out.cell 2 _ rfl;have HX60:=hJ (((HR3.out.set 0 (.string ⟨#[]⟩)).set 1 (.string ⟨#[]⟩)).set 2 (.slice none 0 0));have s0:=HX60.out.cell 0 _ rfl;have s1:=HX60.out.cell 1 _ rfl;have s2:=HX60.out.cell 2 _ rfl;rw [(kED hok).2.2] at HS3 ⊢;rw [(kED hok).2.1];clear hok
    go_wp2_with fail
    refine bodyPost_ret (v:=.tuple #[.agg #[.string ⟨#[]⟩,.string ⟨#[]⟩,.slice none 0 0],.int .i64 3]) (by simp [results,results133,go_sem,s0,s1,s2,hl3]) rfl ?_;refine ⟨⟨_,by rw [HF.out.2],by rw [HF.out.1];exact ⟨_,rfl,none,0,rfl,Sl.empty _ _ _⟩⟩,?_⟩;exact (((HW3.out.setCell (by show _≤w.heap.size+1;omega) _).setCell (by show _≤w.heap.size+1;omega) _).setCell (by show _≤w.heap.size+1;omega) _).alloc (by simp;omega) _
 | true =>
    obtain ⟨z1,z2,z3⟩:=kHI hok;rw [z3] at HS3 ⊢;have HE:=hJ z2;rw [z2];have HF:=hJ z1;clear z1 z2 z3 hok;obtain ⟨er,ed⟩:∃ q,q=subShpR b x.shape:=⟨_,rfl⟩
    have HSh:Hid ((kBZ b x).elem=subEl b x.elem∧(kBZ b x).shape=er):=hJ ⟨rfl,ed.symm⟩;rw [← ed] at HS3 ⊢;clear ed;have hA3:Below w3.heap.size w3 (w3.alloc (.cells #[.string er.row,.slice a5 er.dims.length c5] 52)):=(Below.refl _ _).alloc (Nat.le_refl _) _;have HW4:=hJ (HW3.out.trans (hA3.mono HW3.out.size));have HCF:=hJ (types_find b a nb cb _ (HBS.out.below HW4.out) 3 x.elem);have y9:=HA3.out.cell 0 _ rfl;have hl9:=HA3.out.lt
    go_wp2_with fail
    refine HCF.out.mono ?_;rintro e w6 ⟨rfl,hb6⟩;have HW6:=hJ (HW4.out.trans (hb6.mono HW4.out.size));have HA6:=hJ ((HA3.out.alloc _).below hb6 (HA3.out.alloc _).lt);have HR6:=hJ ((HR3.out.alloc _).below hb6 (HR3.out.alloc _).lt);have HT6:=hJ ((Bx.fresh w3 52 [.string er.row,.slice a5 er.dims.length c5]).below hb6 (Bx.fresh _ _ _).lt);have HS6:=hJ ((HS3.out.below hA3).below hb6);have hl6:=HR6.out.lt;have ha6:=HA6.out.lt;have ht6:=HT6.out.lt;have u0:=HR6.out.fz 0;have u1:=HR6.out.fz 1;have u2:=HR6.out.fz 2;have v0:=HR6.out.cell 0 _ rfl;have v1:=HR6.out.cell 1 _ rfl;have v2:=HR6.out.cell 2 _ rfl;have t0:=HT6.out.cell 0 _ rfl;have t1:=HT6.out.cell 1 _ rfl;clear hb6 y9 hl9 HA3 HR3 HS3 hA3 HW4;have y0:=HA6.out.cell 0 _ rfl;by_cases hq:0≤kB2 b 3 x.elem
    · obtain ⟨kk,hkk,hkl⟩:=find_nat hq
      have hkn:kk<nb:=by rw [← HBS.out.len];exact hkl
      have HEl:Hid (subEl b x.elem=(b.getD kk default).elem):=hJ (by unfold subEl;rw [if_pos hq,hkk];rfl);rw [hkk];clear hq hkk;obtain ⟨bb,boff,rfl,hbb,hSb⟩:=HBS.out.form kk hkn;obtain ⟨td,dd,hr,⟨⟨at1,ct1,rfl,_⟩,⟨ad1,cd1,rfl,hrd⟩⟩,e0,e1,e2,e3,e4,e5,e6⟩:=(HBS.out.below HW6.out).bnd kk hkn;generalize (b.getD kk default).elem=ee at *;clear hr e0 e1 e2 e3 e4 e5 hrd;have r0:=HA6.out.fz 0;have hkn2:(kk:Int)<(nb:Int):=by omega
      have HR7:=hJ (HR6.out.other (a:=⟨w.heap.size,0,none⟩) (u:=.string ee) (by show w.heap.size≠_;omega));have HX60:=hJ (((HR7.out.set 0 (.string ee)).set 1 (.string er.row)).set 2 (.slice a5 er.dims.length c5));have s0:=HX60.out.cell 0 _ rfl;have s1:=HX60.out.cell 1 _ rfl;have s2:=HX60.out.cell 2 _ rfl
      go_wp2_with fail
      refine bodyPost_ret (v:=.tuple #[.agg #[.string ee,.string er.row,.slice a5 er.dims.length c5],.int .i64 0]) (by simp [results,results133,go_sem,s0,s1,s2,hl6]) rfl ?_;refine ⟨⟨[.string ee,.string er.row,.slice a5 er.dims.length c5],by rw [HE.out],?_⟩,?_⟩
      · rw [HF.out]
        refine ⟨.slice a5 er.dims.length c5,by rw [HSh.out.1,HSh.out.2,HEl.out],a5,c5,by rw [HSh.out.2],?_⟩;rw [HSh.out.2];refine Sl.mono (S:=fun k=>w.heap.size+2≤k∧k<w3.heap.size) ?_ (fun q hq _=>by have hq:=hq.1;omega)
        repeat (first | exact HS6.out | refine Sl.set ?_ (fun q hq=>by have hq:w.heap.size+2≤q∧q<w3.heap.size:=hq;first | (show w.heap.size+1≠q;omega) | (show w.heap.size≠q;omega) | (show w3.heap.size+1≠q;omega)))
      · repeat (first | exact HW6.out | refine Below.setCell ?_ (by first | (show _≤w.heap.size+1;omega) | exact Nat.le_refl _ | (show _≤w3.heap.size+1;omega)) _)
    · have hq2:kB2 b 3 x.elem<0:=by omega
      have HEl:Hid (subEl b x.elem=x.elem):=hJ (by unfold subEl;rw [if_neg hq]);clear hq;generalize kB2 b 3 x.elem=q at *;have HX60:=hJ (((HR6.out.set 0 (.string x.elem)).set 1 (.string er.row)).set 2 (.slice a5 er.dims.length c5));have s0:=HX60.out.cell 0 _ rfl;have s1:=HX60.out.cell 1 _ rfl;have s2:=HX60.out.cell 2 _ rfl
      go_wp2_with fail
      refine bodyPost_ret (v:=.tuple #[.agg #[.string x.elem,.string er.row,.slice a5 er.dims.length c5],.int .i64 0]) (by simp [results,results133,go_sem,s0,s1,s2,hl6]) rfl ?_;refine ⟨⟨[.string x.elem,.string er.row,.slice a5 er.dims.length c5],by rw [HE.out],?_⟩,?_⟩
      · rw [HF.out]
        refine ⟨.slice a5 er.dims.length c5,by rw [HSh.out.1,HSh.out.2,HEl.out],a5,c5,by rw [HSh.out.2],?_⟩;rw [HSh.out.2];refine Sl.mono (S:=fun k=>w.heap.size+2≤k∧k<w3.heap.size) ?_ (fun q hq _=>by have hq:=hq.1;omega)
        repeat (first | exact HS6.out | refine Sl.set ?_ (fun q hq=>by have hq:w.heap.size+2≤q∧q<w3.heap.size:=hq;first | (show w.heap.size+1≠q;omega) | (show w.heap.size≠q;omega) | (show w3.heap.size+1≠q;omega)))
      · repeat (first | exact HW6.out | refine Below.setCell ?_ (by first | (show _≤w.heap.size+1;omega) | exact Nat.le_refl _ | (show _≤w3.heap.size+1;omega)) _)
theorem addAll_kinds {p:Int→Prop} (h1:p 1):∀ (ns:List Str) (l:List Bnd),(∀ y ∈ l,p y.kind)→∀ y ∈ addAll l ns,p y.kind
 | [],l,h=>h
 | n :: ns,l,h=>addAll_kinds h1 ns (addV l 1 n) (fun y hy=>by
   unfold addV at hy
   split at hy
   · exact h y hy
   · rcases List.mem_append.1 hy with q | q
     · exact h y q
     · rw [List.mem_singleton.1 q];exact h1)
theorem varsV_kinds (s:Shp):∀ y ∈ kIF s,y.kind≠3:=by
 unfold kIF
 split
 · unfold varsS
   refine addAll_kinds (p:=fun k=>k≠3) (by decide) _ _ ?_;unfold rowV
   split
   · intro y hy;simp at hy
   · intro y hy
     unfold addV at hy
     split at hy
     · simp at hy
     · simp at hy;rw [hy];show (2:Int)≠3;decide
 · intro y hy;simp at hy
theorem find_kind {l:List Bnd} {k:Int} (h:∀ y ∈ l,y.kind≠k) (v:Str):kB2 l k v<0:=by
 rw [kJ9,List.any_eq_false];intro y hy;unfold isB;rw [beq_eq_false_iff_ne.2 (h y hy)];simp
theorem types_TypeVars {S:Blk} {x:Typ} {cs:List Value} {w:World} (h:RTyp.rd S w cs x) (hv:kAE x=true) (E:Env w) :
 Calls Tryz.prog 129 #[.agg cs.toArray] w fun e w'=>(∃ v,e= .returned v∧Own RBnd 114 (fun _=>False) w' w.heap.size v (kDZ x))∧Below w.heap.size w w':=by
 have HV:Hid (∀ W,Below w.heap.size w W→Calls Tryz.prog 81 #[.agg cs.toArray] W fun e w'=>e= .returned (.bool true)∧Below W.heap.size W w') :=
  hJ (fun W hW=>hv ▸ kD1 (RTyp.below h hW) (typ_sz hv) (E.below hW))
 obtain ⟨t,rfl,a,c,rfl,hs⟩:=h;have hez:x.elem.size≤281474976710656:=Nat.le_trans (typ_sz hv).1 (by decide)
 have HC:Hid (∀ W,Below w.heap.size w W→Calls Tryz.prog 184 #[.agg #[.string x.shape.row,.slice a x.shape.dims.length c]] W fun e w'=>(∃ v,e= .returned v∧Own RBnd 114 (fun _=>False) w' W.heap.size v (kIF x.shape))∧Below W.heap.size W w') :=
  hJ (fun W hW=>shape_Vars (S:=S) (cs:=[.string x.shape.row,.slice a x.shape.dims.length c]) ⟨_,rfl,a,c,rfl,hs.below hW⟩ (typ_shp hv) (E.below hW))
 have HLen:=hJ (varsV_len x.shape);have HE:Hid (∀ W,Calls Tryz.prog 142 #[.string x.elem] W fun e w'=>e= .returned (.bool (kAW x.elem))∧Below W.heap.size W w'):=hJ (fun W=>kDS x.elem hez W);have HF0:Hid (kDZ x=if kAW x.elem then addV (kIF x.shape) 3 x.elem else kIF x.shape):=hJ (by unfold kDZ;rw [hv];rfl);have HN:=hJ (addV_new (find_kind (varsV_kinds x.shape) x.elem));clear hs hez hv E;obtain ⟨B0,ya,hW0⟩:=box1 w 54 [.string x.elem,.string x.shape.row,.slice a x.shape.dims.length c];have xa0:=box0 ya 0 _ rfl;have xa1:=box0 ya 1 _ rfl;have xa2:=box0 ya 2 _ rfl;have bka:Bx _ _ _ _:=ya;clear ya;have HBk:=hJ bka;clear bka;generalize kAW x.elem=q at *;generalize kIF x.shape=l at *;cases q with
 | true =>
   have HF:Hid (kDZ x=l++[bare 3 x.elem]):=hJ (by rw [HF0.out,← HN.out];rfl);clear HF0;go_enter func129,ntmps129
   go_wp2_with fail
   refine (HV.out _ B0.out).mono ?_;rintro e w1 ⟨rfl,hb⟩;have HB1:=hJ (HBk.out.below hb (by simp));have y0:=HB1.out.cell 0 _ rfl;have y1:=HB1.out.cell 1 _ rfl;have y2:=HB1.out.cell 2 _ rfl;have HW:=hJ (B0.out.trans (hb.mono B0.out.size));clear xa0 xa1 xa2
   go_wp2_with fail
   refine (HC.out _ HW.out).mono ?_;rintro e w2 ⟨⟨v,rfl,hown⟩,hb2⟩;have HO:=hJ hown;obtain ⟨a2,m2,c2,rfl⟩:=hown.shape;have hl1:=HB1.out.lt;have HB2:=hJ (HB1.out.below hb2 hl1);have z0:=HB2.out.cell 0 _ rfl;clear hown y0 y1 y2
   go_wp2_with fail
   refine (HE.out _).mono ?_;rintro e w3 ⟨rfl,hb3⟩;have HB3:=hJ (HB2.out.below hb3 HB2.out.lt);have u0:=HB3.out.cell 0 _ rfl;have hz2:=hb2.size;have hz3:=hb3.size
   go_wp2_with (at_builtin;refine kA4 elemBnd rfl _ _ rfl w1.heap.size _ _ rfl ((HO.out.below hb3).alloc _) _ (bare 3 x.elem) [.int .i64 3,.string x.elem,.int .i64 0,.slice none 0 0,.string ⟨#[]⟩,.slice none 0 0,.string ⟨#[]⟩] rfl ⟨_,_,rfl,⟨none,0,rfl,Sl.empty _ _ _⟩,⟨none,0,rfl,Sl.empty _ _ _⟩⟩ (kA6 114 (by (simp only [kAK,kAI,Array.getElem?_push,Array.size_push];simp))) (by have:=HLen.out;omega) (by have:=HLen.out;unfold maxLen;omega) (by simp;omega) ?_;intro v9 w9 hown9 hb9 hk9)
   go_ret;exact ⟨⟨_,rfl,by rw [HF.out];exact hown9.lower HW.out.size⟩,HW.out.trans (((hb2.trans (hb3.mono hz2)).alloc (by omega) _ |>.trans hb9).mono HW.out.size)⟩
 | false =>
   have HF:Hid (kDZ x=l):=hJ (by rw [HF0.out];rfl);clear HF0;go_enter func129,ntmps129
   go_wp2_with fail
   refine (HV.out _ B0.out).mono ?_;rintro e w1 ⟨rfl,hb⟩;have HB1:=hJ (HBk.out.below hb (by simp));have y0:=HB1.out.cell 0 _ rfl;have y1:=HB1.out.cell 1 _ rfl;have y2:=HB1.out.cell 2 _ rfl;have HW:=hJ (B0.out.trans (hb.mono B0.out.size));clear xa0 xa1 xa2
   go_wp2_with fail
   refine (HC.out _ HW.out).mono ?_;rintro e w2 ⟨⟨v,rfl,hown⟩,hb2⟩;have HO:=hJ hown;obtain ⟨a2,m2,c2,rfl⟩:=hown.shape;have hl1:=HB1.out.lt;have HB2:=hJ (HB1.out.below hb2 hl1);have z0:=HB2.out.cell 0 _ rfl;clear hown y0 y1 y2
   go_wp2_with fail
   refine (HE.out _).mono ?_;rintro e w3 ⟨rfl,hb3⟩
   go_wp2_with fail
   go_ret;exact ⟨⟨_,rfl,by rw [HF.out];exact (HO.out.below hb3).lower HW.out.size⟩,HW.out.trans ((hb2.trans (hb3.mono hb2.size)).mono HW.out.size)⟩
theorem types_Vars {S:Blk} {s:Sch} {cs:List Value} {w:World} (h:RSch.rd S w cs s) (hv:kAH s=true) (E:Env w) :
 Calls Tryz.prog 69 #[.agg cs.toArray] w fun e w'=>(∃ v,e= .returned v∧Own RBnd 114 (fun _=>False) w' w.heap.size v (kB8 s))∧Below w.heap.size w w':=by
 have HV:Hid (∀ W,Below w.heap.size w W→Calls Tryz.prog 36 #[.agg cs.toArray] W fun e w'=>e= .returned (.bool true)∧Below W.heap.size W w') :=
  hJ (fun W hW=>hv ▸ kCF (RSch.below h hW) (sch_sz hv) (E.below hW))
 have HE:=hJ (fun (W:World) (hW:Below w.heap.size w W)=>E.below hW);have hsp:=kA1 hv;have HAV:=hJ (allT_valid hv);have HWV:=hJ hsp.2.2.2.2;have hpl:=hsp.1;have hwl:=hsp.2.1;have HF:Hid (kB8 s=addAll (kCK (allT s)) (s.wh.flatMap kA0)):=hJ (by unfold kB8;rw [hv];rfl);obtain ⟨p,t,q,rfl,⟨ap,cp,rfl,hp⟩,⟨at_,ct,rfl,ht⟩,⟨aq,cq,rfl,hq⟩⟩:=h;have HP:=hJ hp;have HT:=hJ ht;have HQ:=hJ hq;have hAl:(allT s).length=s.params.length+1:=by unfold allT;rw [List.length_append];rfl
 have hAe:allT s=s.params++[s.result]:=rfl;have HAe:=hJ hAe;clear hp ht hq hsp hv hAe;generalize hn:s.params.length=n at *;generalize hm:s.wh.length=m at *;have HN:=hJ hn;have HM:=hJ hm;have HAl:=hJ hAl;clear hn hm hAl;obtain ⟨B0,ya,hW0⟩:=box1 w 57 [.slice ap n cp,.string s.result.elem,.string s.result.shape.row,.slice at_ s.result.shape.dims.length ct,.slice aq m cq];have xa0:=box0 ya 0 _ rfl;have xa1:=box0 ya 1 _ rfl;have xa2:=box0 ya 2 _ rfl;have xa3:=box0 ya 3 _ rfl;have xa4:=box0 ya 4 _ rfl;have bka:Bx _ _ _ _:=ya;clear ya;have HBk:=hJ bka;clear bka;go_enter func69,ntmps69
 go_wp2_with fail
 refine (HV.out _ B0.out).mono ?_;rintro e w1 ⟨rfl,hb⟩;have HB1:=hJ (HBk.out.below hb (by simp));have y0:=HB1.out.cell 0 _ rfl;have y1:=HB1.out.cell 1 _ rfl;have y2:=HB1.out.cell 2 _ rfl;have y3:=HB1.out.cell 3 _ rfl;have hl1:=HB1.out.lt;have HW:=hJ (B0.out.trans (hb.mono B0.out.size));clear xa0 xa1 xa2 xa3 xa4 hb;have HA:Hid (Below w1.heap.size w1 ((w1.alloc (.cells #[.string s.result.elem,.string s.result.shape.row,.slice at_ s.result.shape.dims.length ct] 54)).alloc (.cells #[.slice ap n cp,.slice (some ⟨w1.heap.size,0,none⟩) 1 1] 55))):=hJ (((Below.refl _ _).alloc (Nat.le_refl _) _).alloc (by simp) _)
 have HCat:=hJ (concat_Typ (S1:=fun k=>S k∧k<w.heap.size) (S2:=fun k=>(S k∧k<w.heap.size)∨k=w1.heap.size) s.params [s.result] ap n cp (some ⟨w1.heap.size,0,none⟩) 1 1 (w1.heap.size+1) ((w1.alloc (.cells #[.string s.result.elem,.string s.result.shape.row,.slice at_ s.result.shape.dims.length ct] 54)).alloc (.cells #[.slice ap n cp,.slice (some ⟨w1.heap.size,0,none⟩) 1 1] 55))
  (by have:=Bx.fresh (w1.alloc (.cells #[.string s.result.elem,.string s.result.shape.row,.slice at_ s.result.shape.dims.length ct] 54)) 55 [.slice ap n cp,.slice (some ⟨w1.heap.size,0,none⟩) 1 1];simpa using this)
  ((HP.out.mono (fun k hk hlt=>⟨hk,hlt⟩)).below (HW.out.trans (HA.out.mono HW.out.size)))
  (Sl.single (cs:=[.string s.result.elem,.string s.result.shape.row,.slice at_ s.result.shape.dims.length ct]) ((Bx.fresh w1 54 [.string s.result.elem,.string s.result.shape.row,.slice at_ s.result.shape.dims.length ct]).alloc _) ⟨_,rfl,at_,ct,rfl,(HT.out.mono (fun k hk hlt=>.inl ⟨hk,hlt⟩)).below (HW.out.trans (HA.out.mono HW.out.size))⟩ (.inr rfl)) (by omega) (by omega))
 go_wp2_with fail
 refine HCat.out.mono ?_;rintro e w2 ⟨⟨v,rfl,hown⟩,hb2⟩;clear HCat;have HB2:=hJ (HA.out.trans (hb2.mono HA.out.size));obtain ⟨al,cl,rfl,hsl⟩:=hown.sl;rw [← HAe.out,HAl.out] at hsl;have HLs:=hJ hsl;have hla:(s.params++[s.result]).length=n+1:=by rw [← HAe.out];exact HAl.out
 have hz2:=HB2.out.size;have HG2:=hJ (HB1.out.below HB2.out hl1);clear hown hsl hb2 y0 y1 y2 y3;rw [hla];have HLa:=hJ hla;clear hla;have HW2:=hJ (HW.out.trans (HB2.out.mono HW.out.size))
 go_wp2_with fail
 go_loopw [3,21] (fun v i wr=>∃ (k:Nat) (v0:Value),k≤n+1∧i= .int .i64 k∧v0=v∧Hid (Own RBnd 114 (fun _=>False) wr w2.heap.size v (kCK ((allT s).take k)))∧Below w2.heap.size w2 wr) (fun _ i _=>n+1 - (intOf i).toNat)
 case atStart=>exact ⟨0,_,Nat.zero_le _,rfl,rfl,hJ (Own.nil _ _ _ _ _),Below.refl _ _⟩
 case round =>
  obtain ⟨k,v0,hk,rfl,rfl,HO,hB⟩:=hrel;have hsz:=hB.size;obtain ⟨a0,m0,c0,rfl⟩:=HO.out.shape;by_cases hlt:k<n+1
  · obtain ⟨b,off,rfl,hbW,_⟩:=HLs.out.form k hlt
    have hkl:k<(allT s).length:=by rw [HAl.out];exact hlt
    obtain ⟨t,hr,⟨ax,cx,rfl,hts⟩,e0,e1,e2⟩:=(HLs.out.below hB).typ k hlt;have HXv:=hJ (HAV.out _ (kAJ hkl));have HNext:=hJ (varsAll_next hkl)
    have HLen:Hid ((kCK ((allT s).take k)).length≤2000):=hJ (by
     have q1:=kIX ((allT s).take k);rw [List.length_take] at q1;omega)
    clear hkl;generalize (allT s).getD k default=x at *;have HCx:=hJ (fun (W:World) (hW:Below wr.heap.size wr W)=>types_TypeVars (RTyp.below hr hW) HXv.out (HE.out W (HW2.out.trans ((hB.trans (hW.mono hB.size)).mono HW2.out.size))));have HVl:=hJ (varsTy_len x);have HVb:=hJ (varsTy_inv HXv.out).bare;clear hr hts;have HAx:Hid (Below wr.heap.size wr (wr.alloc (.cells #[.string x.elem,.string x.shape.row,.slice ax x.shape.dims.length cx] 54))):=hJ ((Below.refl _ _).alloc (Nat.le_refl _) _)
    go_wp2_with fail
    refine (HCx.out _ HAx.out).mono ?_;rintro e w3 ⟨⟨v3,rfl,hown3⟩,hb3⟩;obtain ⟨a3,c3,rfl,hs3,hA3⟩:=hown3.self;have HB3:=hJ (HAx.out.trans (hb3.mono HAx.out.size));have HW3:Hid (Calls _ _ _ _ _):=hJ (types_with (HO.out.below HB3.out) (by have:=HB3.out.size;omega) _ a3 _ c3 hs3 (fun q hq=>⟨(hA3 q hq).2,fun e=>by have h1:=(HO.out.block e).2;have h2:=(hA3 q hq).1;simp at h2;omega⟩) HVb.out (by have:=HLen.out;have:=HVl.out;omega));have hz3:=HB3.out.size;clear hown3 hs3 hA3 hb3;generalize kDZ x=vs at *;generalize kCK ((allT s).take k)=l0 at *
    go_wp2_with fail
    refine HW3.out.mono ?_;rintro e w4 ⟨⟨v4,rfl,hown4,_⟩,hb4⟩
    go_wp2_with fail
    go_roundw
    case rel=>exact ⟨k+1,_,by omega,by go_num,rfl,hJ (by rw [HNext.out];exact hown4),(hB.trans (HB3.out.mono hsz)).trans hb4⟩
    case measure=>simp [intOf];omega
  · have HAll:Hid (kCK ((allT s).take k)=kCK (allT s)):=hJ (by rw [List.take_of_length_le (by rw [HAl.out];omega)])
    have HO0:=hJ (HAll.out ▸ HO.out);have HG3:=hJ (HG2.out.below hB (by have:=HG2.out.lt;omega));have g4:=HG3.out.cell 4 _ rfl;have HQ2:=hJ (HQ.out.below HW2.out)
    have HL0:Hid ((kCK (allT s)).length≤2000):=hJ (by
     have q1:=kIX (allT s);rw [HAl.out] at q1;omega)
    clear HO HAll
    go_wp2_with fail
    go_loopw [3,33] (fun v i wr=>∃ (j:Nat) (v0:Value),j≤m∧i= .int .i64 j∧v0=v∧Hid (Own RBnd 114 (fun _=>False) wr w2.heap.size v (addAll (kCK (allT s)) ((s.wh.take j).flatMap kA0)))∧Below w2.heap.size w2 wr) (fun _ i _=>m - (intOf i).toNat)
    case atStart=>exact ⟨0,_,Nat.zero_le _,rfl,rfl,HO0,hB⟩
    case round =>
     obtain ⟨j,v0,hj,rfl,rfl,HO,hB2⟩:=hrel;have hsz2:=hB2.size;obtain ⟨a0,m0,c0,rfl⟩:=HO.out.shape;by_cases hlj:j<m
     · obtain ⟨b2,off2,rfl,hbW2,_⟩:=HQ2.out.form j hlj
       have hjl:j<s.wh.length:=by rw [HM.out];exact hlj
       obtain ⟨t,hr,⟨ax,cx,rfl,hts⟩,e0,e1⟩:=(HQ2.out.below hB2).lin j hlj;have hxv:=HWV.out _ (kAJ hjl);have HX:=hJ (kDI hxv);have HNext:Hid ((s.wh.take (j+1)).flatMap kA0=(s.wh.take j).flatMap kA0++kA0 (s.wh.getD j default)):=hJ (by rw [kBB hjl,List.flatMap_append];simp)
       have HLen:Hid ((addAll (kCK (allT s)) ((s.wh.take j).flatMap kA0)).length≤3000):=hJ (by
        have q1:=kDQ ((s.wh.take j).flatMap kA0) (kCK (allT s));have q2:=HL0.out;have q3:=kJ8 (s.wh.take j) (fun x hx=>HWV.out x (List.mem_of_mem_take hx));rw [List.length_take] at q3;omega)
       clear hjl hxv;generalize s.wh.getD j default=x at *;generalize hl0:addAll (kCK (allT s)) ((s.wh.take j).flatMap kA0)=l0 at *;have HL00:=hJ hl0;clear hl0;have HC:=hJ (fun (W:World) (hW:Below wr.heap.size wr W)=>kI9 x ax _ cx W (hts.below hW) (by have:=HX.out;omega));clear hr hts;have hvl:(kA0 x).length=x.terms.length:=varsL_len x;have HVL:=hJ hvl;clear hvl;have HAx:Hid (Below wr.heap.size wr (wr.alloc (.cells #[.int .i64 x.const,.slice ax x.terms.length cx] 49))):=hJ ((Below.refl _ _).alloc (Nat.le_refl _) _)
       go_wp2_with fail
       refine (HC.out _ HAx.out).mono ?_;rintro e w3 ⟨⟨v3,rfl,hown3⟩,hb3⟩;obtain ⟨a3,c3,rfl,hs3,hA3⟩:=hown3.self;have HB3:=hJ (HAx.out.trans (hb3.mono HAx.out.size));have hz3:=HB3.out.size;have HT3:Hid (Apart (At a3) w3 (.slice a0 m0 c0)):=hJ (fun q hq=>⟨(hA3 q hq).2,fun e=>by have h1:=(HO.out.block e).2;have h2:=(hA3 q hq).1;simp at h2;omega⟩);have HS3:=hJ hs3;have HO3:=hJ (HO.out.below HB3.out);have HB23:=hJ (hB2.trans (HB3.out.mono hsz2));clear hown3 hs3 hA3 hb3 HC HO e0 e1;rw [HVL.out] at HS3 ⊢;generalize hxl:x.terms.length=n3 at *;have HXL:=hJ hxl;clear hxl;have hn3:n3≤12:=by have:=HX.out;omega
       go_wp2_with fail
       go_loopw [3,40] (fun v i wr=>∃ (i3:Nat) (v0:Value),i3≤n3∧i= .int .i64 i3∧v0=v∧Hid (Own RBnd 114 (fun _=>False) wr w2.heap.size v (addAll l0 ((kA0 x).take i3)))∧Hid (Sl RStr (At a3) wr a3 n3 c3 (kA0 x))∧Hid (Apart (At a3) wr v)∧Below w2.heap.size w2 wr) (fun _ i _=>n3 - (intOf i).toNat)
       case atStart=>exact ⟨0,_,Nat.zero_le _,rfl,rfl,HO3,HS3,HT3,HB23.out⟩
       case round =>
        obtain ⟨i3,v0,hi3,rfl,rfl,HO,HS,HT,hB4⟩:=hrel;have hsz4:=hB4.size;obtain ⟨a0,m0,c0,rfl⟩:=HO.out.shape;by_cases hl3:i3<n3
        · obtain ⟨b4,off4,rfl,hbW4,_⟩:=HS.out.form i3 hl3
          have f0:=HS.out.str i3 hl3;have hk3:i3<x.terms.length:=by rw [HXL.out];exact hl3
          have HStep:=hJ (kJF (l0:=l0) hk3)
          have hLen2:(addAll l0 ((kA0 x).take i3)).length≤4000:=by
           have q1:=kDQ ((kA0 x).take i3) l0;have q2:=HLen.out;rw [List.length_take] at q1;omega
          clear hk3;generalize (kA0 x).getD i3 default=y at *;generalize addAll l0 ((kA0 x).take i3)=l1 at *;obtain ⟨w7,hfold7⟩:∃ q,wr.alloc (.cells #[.int .i64 1,.string y,.int .i64 0,.slice none 0 0,.string ⟨#[]⟩,.slice none 0 0,.string ⟨#[]⟩] 114)=q:=⟨_,rfl⟩
          have HB7:Hid (Below wr.heap.size wr w7):=hJ (by rw [← hfold7];exact (Below.refl _ _).alloc (Nat.le_refl _) _);have HP7:Hid (Bx w7 wr.heap.size 114 [.int .i64 1,.string y,.int .i64 0,.slice none 0 0,.string ⟨#[]⟩,.slice none 0 0,.string ⟨#[]⟩]):=hJ (by rw [← hfold7];exact Bx.fresh _ _ _);have HW7:Hid (Calls _ _ _ _ _):=hJ (types_with (T:=fun q=>q=wr.heap.size) (HO.out.below HB7.out) (by have:=HB7.out.size;omega) [bare 1 y] (some ⟨wr.heap.size,0,none⟩) 1 1 (Sl.single (R:=RBnd) HP7.out ⟨_,_,rfl,⟨none,0,rfl,Sl.empty _ _ _⟩,⟨none,0,rfl,Sl.empty _ _ _⟩⟩ rfl) (fun q hq=>⟨by rw [hq];exact HP7.out.lt,fun e=>by have h1:=(HO.out.block e).2;omega⟩) (fun x hx=>by rw [List.mem_singleton.1 hx];rfl) (by omega));have hz7:=HB7.out.size
          go_wp2_with fail
          refine HW7.out.mono ?_;rintro e w8 ⟨⟨v8,rfl,hown8,hk8⟩,hb8⟩;have HK8:=hJ ((Kl.below HB7.out).trans hk8 hz7);have hz8:wr.heap.size≤w8.heap.size:=by have:=hb8.size;omega
          go_wp2_with fail
          go_roundw
          case rel=>exact ⟨i3+1,_,by omega,by go_num,rfl,hJ (by rw [HStep.out];exact hown8),hJ (HS.out.kl HT.out HK8.out),hJ (HT.out.kl HK8.out hz8),(hB4.trans (HB7.out.mono hsz4)).trans hb8⟩
          case measure=>simp [intOf];omega
        · have HEnd:Hid (addAll l0 ((kA0 x).take i3)=addAll l0 (kA0 x)):=hJ (by
           rw [List.take_of_length_le];rw [HVL.out];omega)
          go_wp2_with fail
          go_roundw
          case rel=>exact ⟨j+1,_,by omega,by go_num,rfl,hJ (by rw [HNext.out,kIE,HL00.out,← HEnd.out];exact HO.out),hB4⟩
          case measure=>simp [intOf];omega
     · have HAll:Hid (s.wh.take j=s.wh):=hJ (List.take_of_length_le (by rw [HM.out];omega))
       go_wp2_with fail
       go_ret;exact ⟨⟨_,rfl,by rw [HF.out];have:=HO.out.lower HW2.out.size;rwa [HAll.out] at this⟩,HW2.out.trans (hB2.mono HW2.out.size)⟩
def kGT (l:List Bnd) (k:Nat):List Bnd:=(List.range k).map (renAt l)++l.drop k
theorem renUp_zero (l:List Bnd):kGT l 0=l:=rfl
theorem renUp_all (l:List Bnd):kGT l l.length=ren l:=by
 unfold kGT ren;rw [List.drop_length,List.append_nil]
theorem kEH {l:List Bnd} {k:Nat} (h:k≤l.length):(kGT l k).length=l.length:=by
 unfold kGT;rw [List.length_append,List.length_map,List.length_range,List.length_drop];omega
theorem renUp_at {l:List Bnd} {k:Nat} (h:k<l.length):(kGT l k)[k]? =some (l.getD k default):=by
 unfold kGT;rw [List.getElem?_append_right (by rw [List.length_map,List.length_range];exact Nat.le_refl _),List.length_map,List.length_range,Nat.sub_self,List.getElem?_drop,Nat.add_zero];exact kEN h
theorem renUp_next {l:List Bnd} {k:Nat} (h:k<l.length):kGT l (k+1)=(kGT l k).set k (renAt l k):=by
 unfold kGT;rw [List.range_succ,List.map_append,List.append_assoc,List.set_append_right _ _ (by rw [List.length_map,List.length_range];exact Nat.le_refl _),List.length_map,List.length_range,Nat.sub_self]
 congr 1
 rw [List.drop_eq_getElem_cons h,List.set_cons_zero];rfl
theorem cnt_next {l:List Bnd} {k:Nat} (h:k<l.length) (q:Int):cntK q (l.take (k+1))=cntK q (l.take k)+if (l.getD k default).kind=q then 1 else 0:=by
 unfold cntK;rw [kBB h,List.countP_append]
 congr 1
 generalize l.getD k default=x at *;by_cases e:x.kind=q
 · rw [if_pos e];simp [e]
 · rw [if_neg e];simp [e]
def cntV (l:List Bnd) (k:Nat):List Value:=[.int .i64 0,.int .i64 (cntK 1 (l.take k)),.int .i64 (cntK 2 (l.take k)),.int .i64 (cntK 3 (l.take k))]
theorem cnt_bd {l:List Bnd} (hl:l.length≤3000) (q:Int) (k:Nat):cntK q (l.take k)≤3000:=by
 have:=cnt_le q (l.take k);rw [List.length_take] at this;omega
structure RenAt1 (l:List Bnd) (k:Nat) (x:Bnd):Prop where
 at1:x.kind=1→renAt l k=⟨1,x.v,varL (nm 110 (cntK 1 (l.take k)+1)),⟨⟨#[]⟩,[]⟩,⟨#[]⟩⟩∧cntV l (k+1)=(cntV l k).set 1 (.int .i64 ((cntK 1 (l.take k):Int)+1))
 at2:x.kind=2→renAt l k=⟨2,x.v,⟨0,[]⟩,⟨nm 114 (cntK 2 (l.take k)+1),[]⟩,⟨#[]⟩⟩∧cntV l (k+1)=(cntV l k).set 2 (.int .i64 ((cntK 2 (l.take k):Int)+1))
 at3:x.kind=3→renAt l k=⟨3,x.v,⟨0,[]⟩,⟨⟨#[]⟩,[]⟩,nm 65 (cntK 3 (l.take k)+1)⟩∧cntV l (k+1)=(cntV l k).set 3 (.int .i64 ((cntK 3 (l.take k):Int)+1))
theorem renAt1 {l:List Bnd} {k:Nat} (h:k<l.length) (hb:(l.getD k default)=bare (l.getD k default).kind (l.getD k default).v):RenAt1 l k (l.getD k default):=by
 have hc:=fun q=>cnt_next h q
 have hr:renAt l k=renB (cntK (l.getD k default).kind (l.take (k+1))) (l.getD k default):=rfl;generalize l.getD k default=x at *;refine ⟨fun e=>?_,fun e=>?_,fun e=>?_⟩
 · rw [e] at hr hb
   have c1:=hc 1;have c2:=hc 2;have c3:=hc 3;rw [e,if_pos rfl] at c1;rw [e,if_neg (by decide)] at c2 c3;refine ⟨?_,?_⟩
   · rw [hr,c1,hb];rfl
   · unfold cntV;rw [c1,c2,c3];rfl
 · rw [e] at hr hb
   have c1:=hc 1;have c2:=hc 2;have c3:=hc 3;rw [e,if_pos rfl] at c2;rw [e,if_neg (by decide)] at c1 c3;refine ⟨?_,?_⟩
   · rw [hr,c2,hb];rfl
   · unfold cntV;rw [c1,c2,c3];rfl
 · rw [e] at hr hb
   have c1:=hc 1;have c2:=hc 2;have c3:=hc 3;rw [e,if_pos rfl] at c3;rw [e,if_neg (by decide)] at c1 c2;refine ⟨?_,?_⟩
   · rw [hr,c3,hb];rfl
   · unfold cntV;rw [c1,c2,c3];rfl
def decS (n:Nat):Str:=⟨(Lib.decDigits n).toArray⟩
theorem Own.cut {α :Type} {R:Rep α} {E:TypeId} {S:Blk} {w:World} {base:Nat} {v:Value} {l:List α} (h:Own R E S w base v l):Own R E (fun q=>S q∧q<w.heap.size) w base v l:=h.mono fun k hk hlt=>⟨hk,hlt⟩
theorem Sl.zero {α :Type} {R:Rep α} {S:Blk} {w:World} {a:Option Addr} {c:Nat} (hm:c≤maxLen) (hn:a=none→c=0):Sl R S w a 0 c []:=⟨rfl,Nat.zero_le _,hm,hn,fun i x h=>by simp at h⟩
theorem cntV_zero (l:List Bnd):cntV l 0=[.int .i64 0,.int .i64 0,.int .i64 0,.int .i64 0]:=by
 unfold cntV cntK;rfl
def kIM (b:List Bnd) (s:Sch):Sch:=if kCM b s then kGO b s else kA8
def kD4 (b:List Bnd) (s:Sch):Int:=if kCM b s then 0 else 3
theorem sch_no {b:List Bnd} {s:Sch} (h:kCM b s=false):kIM b s=kA8∧kD4 b s=3:=by
 unfold kIM kD4;rw [h];exact ⟨rfl,rfl⟩
theorem sch_badP {b:List Bnd} {s:Sch} {i:Nat} (hi:i<s.params.length) (h:kBJ b (s.params.getD i default).shape=false):kIM b s=kA8∧kD4 b s=3:=sch_no (by
 have:s.params.all (fun t=>kBJ b t.shape)=false:=List.all_eq_false.2 ⟨_,kAJ hi,by rw [h];decide⟩;unfold kCM;rw [this];simp)
theorem sch_badR {b:List Bnd} {s:Sch} (h:kBJ b s.result.shape=false):kIM b s=kA8∧kD4 b s=3:=sch_no (by
 unfold kCM;rw [h];simp)
theorem sch_badW {b:List Bnd} {s:Sch} {i:Nat} (hi:i<s.wh.length) (h:kAC (kAM b (s.wh.getD i default))=false):kIM b s=kA8∧kD4 b s=3:=sch_no (by
 have:s.wh.all (fun x=>kAC (kAM b x))=false:=List.all_eq_false.2 ⟨_,kAJ hi,by rw [h];decide⟩;unfold kCM;rw [this];simp)
theorem all_getD {α :Type} [Inhabited α] {l:List α} {p: α →Bool} (h:∀ i,i<l.length→p (l.getD i default)=true):l.all p=true:=by
 rw [List.all_eq_true];intro x hx;obtain ⟨i,hi,e⟩:=List.getElem_of_mem hx;have:=h i hi;rw [List.getD_eq_getElem?_getD,List.getElem?_eq_getElem hi] at this;rw [← e];exact this
theorem sch_good {b:List Bnd} {s:Sch} (hv:kAH s=true) (hb:kCU b=true) (h1:∀ i,i<s.params.length→kBJ b (s.params.getD i default).shape=true) (h2:kBJ b s.result.shape=true) (h3:∀ i,i<s.wh.length→kAC (kAM b (s.wh.getD i default))=true):kIM b s=kGO b s∧kD4 b s=0:=by
 have:kCM b s=true:=by
  unfold kCM;rw [hv,hb,all_getD (p:=fun t:Typ=>kBJ b t.shape) h1,h2,all_getD (p:=fun x=>kAC (kAM b x)) h3];rfl
 unfold kIM kD4;rw [this];exact ⟨rfl,rfl⟩
theorem Bx.other3 {w:World} {g g':Nat} {E:TypeId} {cs:List Value} (h:Bx w g E cs) (hne:g'≠g) (a b c:Value):Bx (((w.setCell ⟨g',0,none⟩ a).setCell ⟨g',1,none⟩ b).setCell ⟨g',2,none⟩ c) g E cs:=((h.other hne).other hne).other hne
theorem Bx.other2 {w:World} {g g':Nat} {E:TypeId} {cs:List Value} (h:Bx w g E cs) (hne:g'≠g) (a b:Value):Bx ((w.setCell ⟨g',0,none⟩ a).setCell ⟨g',1,none⟩ b) g E cs:=(h.other hne).other hne
def kIV (B:Nat) (w:World) (ds:List Value) (s:Sch):Prop:=∃ base p t q,B≤base∧ds=[p,.string s.result.elem,.string s.result.shape.row,t,q]∧SlV RTyp (fun k=>B≤k∧k<base) w p s.params∧SlV RLin (fun k=>B≤k∧k<base) w t s.result.shape.dims∧Own RLin 49 (fun k=>base≤k) w base q s.wh
theorem kIV.no (B:Nat) (w:World):kIV B w [.slice none 0 0,.string ⟨#[]⟩,.string ⟨#[]⟩,.slice none 0 0,.slice none 0 0] kA8 :=
 ⟨B,_,_,_,Nat.le_refl _,rfl,⟨none,0,rfl,Sl.empty _ _ _⟩,⟨none,0,rfl,Sl.empty _ _ _⟩,Own.nil _ _ _ _ _⟩
theorem kIV.rd {B:Nat} {w:World} {ds:List Value} {s:Sch} (h:kIV B w ds s):RSch.rd (fun k=>B≤k) w ds s:=by
 obtain ⟨base,p,t,q,hb,rfl,h1,h2,h3⟩:=h;obtain ⟨a,c,rfl,h4⟩:=h3.sl;exact ⟨p,t,_,rfl,h1.mono (fun k hk _=>hk.1),h2.mono (fun k hk _=>hk.1),⟨a,c,rfl,h4.mono (fun k hk _=>by have:base≤k:=hk.elim id id;omega)⟩⟩
theorem types_SubstScheme {S T:Blk} {s:Sch} {cs:List Value} {w:World} (h:RSch.rd S w cs s) (hv:kAH s=true) (b:List Bnd) (a:Option Addr) (nb cb:Nat) (hbs:Sl RBnd T w a nb cb b) (hb:kCU b=true) (hp:PlainB b) (E:Env w) :
 Calls Tryz.prog 72 #[.agg cs.toArray,.slice a nb cb] w fun e w'=>(∃ ds,e= .returned (.tuple #[.agg ds.toArray,.int .i64 (kD4 b s)])∧kIV w.heap.size w' ds (kIM b s))∧Below w.heap.size w w':=by
 have HCV:Hid (∀ W,Below w.heap.size w W→Calls Tryz.prog 36 #[.agg cs.toArray] W fun e w'=>e= .returned (.bool true)∧Below W.heap.size W w') :=
  hJ (fun W hW=>hv ▸ kCF (RSch.below h hW) (sch_sz hv) (E.below hW))
 have HCB:Hid (∀ W,Below w.heap.size w W→Calls Tryz.prog 132 #[.slice a nb cb] W fun e w'=>e= .returned (.bool true)∧Below W.heap.size W w') :=
  hJ (fun W hW=>kEL b a nb cb W (hbs.below hW) hb (E.below hW))
 have EE:=hJ E;have HCT:=hJ (fun (W:World) (hW:Below w.heap.size w W) (x:Typ) (ds:List Value) (hx:RTyp.rd S W ds x) (hvx:kAE x=true)=>types_Subst hx hvx b a nb cb (hbs.below hW) hb hp (E.below hW));have HCL:=hJ (fun (W:World) (hW:Below w.heap.size w W) (x:Lin) (ds:List Value) (hx:RLin.rd S W ds x) (hvx:kAC x=true)=>kFK hx hvx b a nb cb (hbs.below hW) (kIK hb) (E.below hW));obtain ⟨_,_,_,rfl,⟨ap,cp,rfl,hps⟩,⟨ar,cr,rfl,hrs⟩,⟨aq,cq,rfl,hqs⟩⟩:=h;have HPs:=hJ hps;have HRs:=hJ hrs;have HQs:=hJ hqs;have HV:=hJ (kA1 hv);have HGood:=hJ (fun q1 q2 q3=>sch_good (b:=b) (s:=s) hv hb q1 q2 q3);have hpm:=hps.small;have hqm:=hqs.small;have hp12:=(kA1 hv).1;have hq60:=(kA1 hv).2.1;clear hps hrs hqs hbs hv hb hp;generalize hnn:s.params.length=n at *;generalize hmm:s.wh.length=m at *;have HN:=hJ hnn;have HM:=hJ hmm;clear hnn hmm;obtain ⟨B0,ya,yb,hW0⟩:=box2 w 57 [.slice ap n cp,.string s.result.elem,.string s.result.shape.row,.slice ar s.result.shape.dims.length cr,.slice aq m cq] 57 [.slice none 0 0,.string ⟨#[]⟩,.string ⟨#[]⟩,.slice none 0 0,.slice none 0 0];have xa0:=box0 ya 0 _ rfl;have xa1:=box0 ya 1 _ rfl;have xa2:=box0 ya 2 _ rfl;have xa3:=box0 ya 3 _ rfl;have xa4:=box0 ya 4 _ rfl;have xb0:=box0 yb 0 _ rfl;have xb1:=box0 yb 1 _ rfl;have xb2:=box0 yb 2 _ rfl;have xb3:=box0 yb 3 _ rfl;have xb4:=box0 yb 4 _ rfl;have bka:Bx _ _ _ _:=ya;have bkb:Bx _ _ _ _:=yb;clear ya yb;have HA0:=hJ bka;have HR0:=hJ bkb;clear bka bkb;go_enter func72,ntmps72
 go_wp2_with fail
 refine (HCV.out _ B0.out).mono ?_;rintro e w1 ⟨rfl,hb1⟩;have hW1:=B0.out.trans (hb1.mono B0.out.size)
 go_wp2_with fail
 refine (HCB.out _ hW1).mono ?_;rintro e w2 ⟨rfl,hb2⟩;have HW:=hJ (hW1.trans (hb2.mono hW1.size));have HA2:=hJ ((HA0.out.below hb1 HA0.out.lt).below hb2 (HA0.out.below hb1 HA0.out.lt).lt);have HR2:=hJ ((HR0.out.below hb1 HR0.out.lt).below hb2 (HR0.out.below hb1 HR0.out.lt).lt);have hlR:=HR2.out.lt;have hlA:=HA2.out.lt;clear xa0 xa1 xa2 xa3 xa4 xb0 xb1 xb2 xb3 xb4 hb1 hb2 hW1 HR0 HA0 B0 HCV HCB;obtain ⟨w3,hw3⟩:∃ q,q=w2.alloc (.cells #[.slice none 0 0,.string ⟨#[]⟩,.string ⟨#[]⟩,.slice none 0 0,.slice none 0 0] 57):=⟨_,rfl⟩
 have hfold:=hw3.symm;have HG3:Hid (Bx w3 w2.heap.size 57 [.slice none 0 0,.string ⟨#[]⟩,.string ⟨#[]⟩,.slice none 0 0,.slice none 0 0]):=hJ (by rw [hw3];exact Bx.fresh _ _ _);have HB3:Hid (Below w2.heap.size w2 w3):=hJ (by rw [hw3];exact (Below.refl _ _).alloc (Nat.le_refl _) _);clear hw3;have HA3:=hJ (HA2.out.below HB3.out hlA);have y0:=HA3.out.cell 0 _ rfl;have y1:=HA3.out.cell 1 _ rfl;have y2:=HA3.out.cell 2 _ rfl;have y3:=HA3.out.cell 3 _ rfl;have y4:=HA3.out.cell 4 _ rfl
 go_wp2_with fail
 go_loopw [24] (fun i wr=>∃ (k:Nat) (v0:Value),k≤n∧i= .int .i64 k∧Hid (∀ j,j<k→kBJ b (s.params.getD j default).shape=true)∧Hid (Own RTyp 54 (fun q=>w2.heap.size<q) wr (w2.heap.size+1) v0 ((s.params.take k).map (kBZ b)))∧Hid (Bx wr w2.heap.size 57 [v0,.string ⟨#[]⟩,.string ⟨#[]⟩,.slice none 0 0,.slice none 0 0])∧Below w2.heap.size w2 wr) (fun i _=>n - (intOf i).toNat)
 case atStart=>exact ⟨0,_,Nat.zero_le _,rfl,hJ (fun i hi=>absurd hi (by omega)),hJ (Own.nil _ _ _ _ _),HG3,HB3.out⟩
 case round =>
  obtain ⟨k,v0,hk,rfl,HT,HO,HG,hB⟩:=hrel;have HBw:=hJ (HW.out.trans (hB.mono HW.out.size));have HRr:=hJ (HR2.out.below hB hlR);have hlG:=HG.out.lt;obtain ⟨a0,m0,c0,rfl⟩:=HO.out.shape;by_cases hlt:k<n
  · obtain ⟨b1,off,rfl,hbW,_⟩:=HPs.out.form k hlt
    obtain ⟨t,hr,⟨at_,ct,rfl,hts⟩,e0,e1,e2⟩:=(HPs.out.below HBw.out).typ k hlt;have HK:Hid (k<s.params.length):=hJ (by rw [HN.out];exact hlt);have HNext:Hid ((s.params.take (k+1)).map (kBZ b)=(s.params.take k).map (kBZ b)++[kBZ b (s.params.getD k default)]):=hJ (by rw [kBB HK.out,List.map_append];rfl);have hkl:((s.params.take k).map (kBZ b)).length=k:=by rw [List.length_map,List.length_take,HN.out];omega
    have HBad:=hJ (fun q=>sch_badP (b:=b) HK.out q);have HUp:=hJ (fun q=>upto HT.out (p:=fun j=>kBJ b (s.params.getD j default).shape=true) q);have HXv:=hJ (HV.out.2.2.1 _ (kAJ HK.out));generalize s.params.getD k default=x at *;generalize (s.params.take k).map (kBZ b)=lk at *;have hA:Below wr.heap.size wr (wr.alloc (.cells #[.string x.elem,.string x.shape.row,.slice at_ x.shape.dims.length ct] 54)):=(Below.refl _ _).alloc (Nat.le_refl _) _;have HCx:=hJ (HCT.out _ (HBw.out.trans (hA.mono HBw.out.size)) x _ (RTyp.below hr hA) HXv.out);clear hr hts;cases hok:kBJ b x.shape with
    | false =>
      have HBd:=hJ (HBad.out hok);rw [(kED hok).1,(kED hok).2.1] at HCx;clear hok
      go_wp2_with fail
      refine HCx.out.mono ?_;rintro e w5 ⟨⟨_,rfl,hr5⟩,hb5⟩;obtain ⟨_,rfl,a5,c5,rfl,hs5⟩:=hr5;have HP5:=hJ ((Bx.fresh wr 54 [.string x.elem,.string x.shape.row,.slice at_ x.shape.dims.length ct]).below hb5 (Bx.fresh _ _ _).lt);have p0:=HP5.out.cell 0 _ rfl;have p1:=HP5.out.cell 1 _ rfl;have p2:=HP5.out.cell 2 _ rfl;have u10:=HP5.out.fz 0;have u11:=HP5.out.fz 1;have u12:=HP5.out.fz 2;have HB5:=hJ (hA.trans (hb5.mono (by simp)));have HR5:=hJ (HRr.out.below HB5.out HRr.out.lt);obtain ⟨w7,hfold7⟩:∃ q,((w5.setCell ⟨wr.heap.size,0,none⟩ (.string kBL.elem)).setCell ⟨wr.heap.size,1,none⟩ (.string kBL.shape.row)).setCell ⟨wr.heap.size,2,none⟩ (.slice a5 kBL.shape.dims.length c5)=q:=⟨_,rfl⟩
      have HRw:=hJ (HR5.out.other3 (g':=wr.heap.size) (by omega) (.string kBL.elem) (.string kBL.shape.row) (.slice a5 kBL.shape.dims.length c5));rw [hfold7] at HRw;have HWw:Hid (Below w.heap.size w w7):=hJ (by rw [← hfold7];exact (((HBw.out.trans (HB5.out.mono HBw.out.size)).setCell (by show _≤wr.heap.size;omega) _).setCell (by show _≤wr.heap.size;omega) _).setCell (by show _≤wr.heap.size;omega) _);have v0:=HRw.out.cell 0 _ rfl;have v1:=HRw.out.cell 1 _ rfl;have v2:=HRw.out.cell 2 _ rfl;have v3:=HRw.out.cell 3 _ rfl;have v4:=HRw.out.cell 4 _ rfl;have u0:=HRw.out.fz 0;have u1:=HRw.out.fz 1;have u2:=HRw.out.fz 2;have u3:=HRw.out.fz 3;have u4:=HRw.out.fz 4;have hlr:=HRw.out.lt;have HX60:=hJ (((((HRw.out.set 0 (.slice none 0 0)).set 1 (.string ⟨#[]⟩)).set 2 (.string ⟨#[]⟩)).set 3 (.slice none 0 0)).set 4 (.slice none 0 0));have s0:=HX60.out.cell 0 _ rfl;have s1:=HX60.out.cell 1 _ rfl;have s2:=HX60.out.cell 2 _ rfl;have s3:=HX60.out.cell 3 _ rfl;have s4:=HX60.out.cell 4 _ rfl
      go_wp2_with fail
      refine bodyPost_ret (v:=.tuple #[.agg #[.slice none 0 0,.string ⟨#[]⟩,.string ⟨#[]⟩,.slice none 0 0,.slice none 0 0],.int .i64 3]) (by simp [results,results72,go_sem,s0,s1,s2,s3,s4,hlr]) rfl ?_;refine ⟨⟨[.slice none 0 0,.string ⟨#[]⟩,.string ⟨#[]⟩,.slice none 0 0,.slice none 0 0],by rw [HBd.out.2],by rw [HBd.out.1];exact kIV.no ..⟩,?_⟩
      repeat (first | exact HWw.out | refine Below.setCell ?_ (by show _≤w.heap.size+1;omega) _)
    | true =>
      have HUp:=hJ (HUp.out hok);rw [(kHI hok).1,(kHI hok).2.1] at HCx;clear hok HBad
      go_wp2_with fail
      refine HCx.out.mono ?_;rintro e w5 ⟨⟨_,rfl,hr5⟩,hb5⟩;obtain ⟨_,rfl,a5,c5,rfl,hs5⟩:=hr5;generalize kBZ b x=y at *;have HP5:=hJ ((Bx.fresh wr 54 [.string x.elem,.string x.shape.row,.slice at_ x.shape.dims.length ct]).below hb5 (Bx.fresh _ _ _).lt);have HB5:=hJ (hA.trans (hb5.mono (by simp)));have p0:=HP5.out.cell 0 _ rfl;have p1:=HP5.out.cell 1 _ rfl;have p2:=HP5.out.cell 2 _ rfl;have u10:=HP5.out.fz 0;have u11:=HP5.out.fz 1;have u12:=HP5.out.fz 2;obtain ⟨w7,hfold7⟩:∃ q,((w5.setCell ⟨wr.heap.size,0,none⟩ (.string y.elem)).setCell ⟨wr.heap.size,1,none⟩ (.string y.shape.row)).setCell ⟨wr.heap.size,2,none⟩ (.slice a5 y.shape.dims.length c5)=q:=⟨_,rfl⟩
      have HB7:Hid (Below wr.heap.size wr w7):=hJ (by rw [← hfold7];exact ((HB5.out.setCell (by exact Nat.le_refl _) _).setCell (by exact Nat.le_refl _) _).setCell (by exact Nat.le_refl _) _);have HP7:=hJ (((HP5.out.set 0 (.string y.elem)).set 1 (.string y.shape.row)).set 2 (.slice a5 y.shape.dims.length c5));rw [hfold7] at HP7;have r0:=HP7.out.cell 0 _ rfl;have r1:=HP7.out.cell 1 _ rfl;have r2:=HP7.out.cell 2 _ rfl;have HG7:=hJ (HG.out.below HB7.out hlG);have g0:=HG7.out.cell 0 _ rfl;have hs7:=HB7.out.size
      have HRY:Hid (RTyp.rd (fun q=>w2.heap.size<q∧(Value.slice a0 m0 c0).ownBlock≠some q) w7 [.string y.elem,.string y.shape.row,.slice a5 y.shape.dims.length c5] y):=hJ ⟨_,rfl,a5,c5,rfl,by
       rw [← hfold7]
       have h1:=hs5.mono (S':=fun q=>wr.heap.size<q) (fun q hq _=>by have hq:wr.heap.size+1≤q:=by simpa using hq
                                                                     omega)
       refine Sl.mono (S:=fun q=>wr.heap.size<q) ?_ (fun q hq _=>⟨by have:wr.heap.size<q:=hq;omega,fun e=>by have h8:=(HO.out.block e).2;have:wr.heap.size<q:=hq;omega⟩);exact ((h1.set (fun q hq=>Nat.ne_of_lt hq)).set (fun q hq=>Nat.ne_of_lt hq)).set (fun q hq=>Nat.ne_of_lt hq)⟩
      clear hs5 hb5 HP5
      go_wp2_with (at_builtin;refine kA4 kG0 rfl _ _ rfl (w2.heap.size+1) _ _ rfl ((HO.out.below HB7.out).alloc _) _ y [.string y.elem,.string y.shape.row,.slice a5 y.shape.dims.length c5] rfl (RTyp.below HRY.out ((Below.refl _ _).alloc (Nat.le_refl _) _)) (kA6 54 (by (simp only [kAK,kAI,Array.getElem?_push,Array.size_push];simp))) (by omega) (by unfold maxLen;omega) (by simp;omega) ?_;intro v9 w9 hown9 hb9 hk9;obtain ⟨a9,m9,c9,rfl⟩:=hown9.shape;have HG9:=hJ ((HG7.out.alloc _).kp hk9 (HO.out.ne (Nat.lt_succ_self _)));have g9:=HG9.out.cell 0 _ rfl;have u9:=HG9.out.fz 0)
      go_roundw
      case rel=>exact ⟨k+1,_,by omega,by go_num,HUp,hJ (by rw [HNext.out];exact hown9.set _ (fun q hq=>Nat.ne_of_gt hq) (Nat.lt_succ_self _)),hJ (HG9.out.set 0 _),((hB.trans (HB7.out.mono hB.size)).trans (((Below.refl _ _).alloc (by omega) _).trans (hb9.mono (Nat.le_succ _)))).setCell (Nat.le_refl _) _⟩
      case measure=>simp [intOf];omega
  · obtain rfl:k=n:=by omega
    have HAll:Hid ((s.params.take k).map (kBZ b)=s.params.map (kBZ b)):=hJ (by rw [List.take_of_length_le (by rw [HN.out];exact Nat.le_refl _)]);rw [HAll.out] at HO;have HAr:=hJ (HA2.out.below hB hlA);have y0:=HAr.out.cell 0 _ rfl;have y1:=HAr.out.cell 1 _ rfl;have y2:=HAr.out.cell 2 _ rfl;have y3:=HAr.out.cell 3 _ rfl;have y4:=HAr.out.cell 4 _ rfl;have HCx:=hJ (HCT.out _ HBw.out s.result _ ⟨_,rfl,ar,cr,rfl,HRs.out.below HBw.out⟩ HV.out.2.2.2.1);have g0:=HG.out.cell 0 _ rfl;cases hok:kBJ b s.result.shape with
    | false =>
      have HBd:=hJ (sch_badR (b:=b) hok);rw [(kED hok).1,(kED hok).2.1] at HCx;clear hok
      go_wp2_with fail
      refine HCx.out.mono ?_;rintro e w5 ⟨⟨_,rfl,hr5⟩,hb5⟩;obtain ⟨_,rfl,a5,c5,rfl,hs5⟩:=hr5;have HB5:=hJ hb5;have HG5:=hJ (HG.out.below hb5 hlG);have HR5:=hJ (HRr.out.below hb5 HRr.out.lt);have g1:=HG5.out.cell 1 _ rfl;have g2:=HG5.out.cell 2 _ rfl;have g3:=HG5.out.cell 3 _ rfl;have u11:=HG5.out.fz 1;have u12:=HG5.out.fz 2;have u13:=HG5.out.fz 3;obtain ⟨w7,hfold7⟩:∃ q,((w5.setCell ⟨w2.heap.size,1,none⟩ (.string kBL.elem)).setCell ⟨w2.heap.size,2,none⟩ (.string kBL.shape.row)).setCell ⟨w2.heap.size,3,none⟩ (.slice a5 kBL.shape.dims.length c5)=q:=⟨_,rfl⟩
      have HRw:=hJ (((HR5.out.other (a:=⟨w2.heap.size,1,none⟩) (u:=.string kBL.elem) (by show w2.heap.size≠_;omega)).other (a:=⟨w2.heap.size,2,none⟩) (u:=.string kBL.shape.row) (by show w2.heap.size≠_;omega)).other (a:=⟨w2.heap.size,3,none⟩) (u:=.slice a5 kBL.shape.dims.length c5) (by show w2.heap.size≠_;omega));rw [hfold7] at HRw;have hsz2:=HW.out.size;have HWw:Hid (Below w.heap.size w w7):=hJ (by rw [← hfold7];exact (((HBw.out.trans (HB5.out.mono HBw.out.size)).setCell (by show _≤w2.heap.size;omega) _).setCell (by show _≤w2.heap.size;omega) _).setCell (by show _≤w2.heap.size;omega) _);have v0:=HRw.out.cell 0 _ rfl;have v1:=HRw.out.cell 1 _ rfl;have v2:=HRw.out.cell 2 _ rfl;have v3:=HRw.out.cell 3 _ rfl;have v4:=HRw.out.cell 4 _ rfl;have u0:=HRw.out.fz 0;have u1:=HRw.out.fz 1;have u2:=HRw.out.fz 2;have u3:=HRw.out.fz 3;have u4:=HRw.out.fz 4;have hlr:=HRw.out.lt;have HX60:=hJ (((((HRw.out.set 0 (.slice none 0 0)).set 1 (.string ⟨#[]⟩)).set 2 (.string ⟨#[]⟩)).set 3 (.slice none 0 0)).set 4 (.slice none 0 0));have s0:=HX60.out.cell 0 _ rfl;have s1:=HX60.out.cell 1 _ rfl;have s2:=HX60.out.cell 2 _ rfl;have s3:=HX60.out.cell 3 _ rfl;have s4:=HX60.out.cell 4 _ rfl
      go_wp2_with fail
      refine bodyPost_ret (v:=.tuple #[.agg #[.slice none 0 0,.string ⟨#[]⟩,.string ⟨#[]⟩,.slice none 0 0,.slice none 0 0],.int .i64 3]) (by simp [results,results72,go_sem,s0,s1,s2,s3,s4,hlr]) rfl ?_;refine ⟨⟨[.slice none 0 0,.string ⟨#[]⟩,.string ⟨#[]⟩,.slice none 0 0,.slice none 0 0],by rw [HBd.out.2],by rw [HBd.out.1];exact kIV.no ..⟩,?_⟩
      repeat (first | exact HWw.out | refine Below.setCell ?_ (by show _≤w.heap.size+1;omega) _)
    | true =>
      have HokR:=hJ hok;rw [(kHI hok).1,(kHI hok).2.1] at HCx;clear hok
      go_wp2_with fail
      refine HCx.out.mono ?_;rintro e w5 ⟨⟨_,rfl,hr5⟩,hb5⟩;obtain ⟨_,rfl,a5,c5,rfl,hs5⟩:=hr5;obtain ⟨y,hy⟩:∃ y,y=kBZ b s.result:=⟨_,rfl⟩
      have HY:=hJ hy;rw [← hy] at hs5 ⊢;clear hy;have HB5:=hJ hb5;have HG5:=hJ (HG.out.below hb5 hlG);have HR5:=hJ (HRr.out.below hb5 HRr.out.lt);have HA5:=hJ (HAr.out.below hb5 HAr.out.lt);have g1:=HG5.out.cell 1 _ rfl;have g2:=HG5.out.cell 2 _ rfl;have g3:=HG5.out.cell 3 _ rfl;have u11:=HG5.out.fz 1;have u12:=HG5.out.fz 2;have u13:=HG5.out.fz 3;obtain ⟨w7,hfold7⟩:∃ q,((w5.setCell ⟨w2.heap.size,1,none⟩ (.string y.elem)).setCell ⟨w2.heap.size,2,none⟩ (.string y.shape.row)).setCell ⟨w2.heap.size,3,none⟩ (.slice a5 y.shape.dims.length c5)=q:=⟨_,rfl⟩
      have hne:∀ g,g<w2.heap.size→w2.heap.size≠g:=fun g hg=>by omega
      have hsz2:=HW.out.size;have HR7:Hid (Bx w7 _ _ _):=hJ (hfold7 ▸ ((HR5.out.other (a:=⟨w2.heap.size,1,none⟩) (hne _ hlR)).other (a:=⟨w2.heap.size,2,none⟩) (hne _ hlR)).other (a:=⟨w2.heap.size,3,none⟩) (hne _ hlR));have HA7:Hid (Bx w7 _ _ _):=hJ (hfold7 ▸ ((HA5.out.other (a:=⟨w2.heap.size,1,none⟩) (hne _ hlA)).other (a:=⟨w2.heap.size,2,none⟩) (hne _ hlA)).other (a:=⟨w2.heap.size,3,none⟩) (hne _ hlA));have HG7:Hid (Bx w7 _ _ _):=hJ (hfold7 ▸ ((HG5.out.set 1 (.string y.elem)).set 2 (.string y.shape.row)).set 3 (.slice a5 y.shape.dims.length c5));have HO7:Hid (Own RTyp 54 (fun q=>w2.heap.size<q) w7 _ _ _):=hJ (hfold7 ▸ (((HO.out.below hb5).set (a:=⟨w2.heap.size,1,none⟩) _ (fun q hq=>Nat.ne_of_gt hq) (Nat.lt_succ_self _)).set (a:=⟨w2.heap.size,2,none⟩) _ (fun q hq=>Nat.ne_of_gt hq) (Nat.lt_succ_self _)).set (a:=⟨w2.heap.size,3,none⟩) _ (fun q hq=>Nat.ne_of_gt hq) (Nat.lt_succ_self _));have HS7:Hid (Sl RLin (fun q=>w2.heap.size<q) w7 _ _ _ _):=hJ (hfold7 ▸ (((hs5.mono (S':=fun q=>w2.heap.size<q) (fun q hq _=>by have hq:wr.heap.size≤q:=hq;omega)).set (ad:=⟨w2.heap.size,1,none⟩) (fun q hq=>Nat.ne_of_lt hq)).set (ad:=⟨w2.heap.size,2,none⟩) (fun q hq=>Nat.ne_of_lt hq)).set (ad:=⟨w2.heap.size,3,none⟩) (fun q hq=>Nat.ne_of_lt hq));have HB7:Hid (Below w2.heap.size w2 w7):=hJ (by rw [← hfold7];exact (((hB.trans (hb5.mono hB.size)).setCell (by exact Nat.le_refl _) _).setCell (by exact Nat.le_refl _) _).setCell (by exact Nat.le_refl _) _);have g4:=HA7.out.cell 4 _ rfl;have hl7:=HG7.out.lt;clear HCx HG HO HAr HRr HA2 HR2 HG5 HR5 HA5 HB5 hb5 hs5 hB HBw
      go_wp2_with fail
      have HMore:Hid (∀ W:World,W.heap[w.heap.size]? =w7.heap[w.heap.size]? →W.cell? ⟨w.heap.size,4,none⟩=some (.slice aq m cq)):=hJ (fun W q=>Bx.cell (w:=W) (q.trans HA7.out) 4 _ rfl)
      go_loopw [60] (fun i wt=>∃ (k:Nat) (v0:Value),k≤m∧i= .int .i64 k∧Hid (∀ j,j<k→kAC (kAM b (s.wh.getD j default))=true)∧Hid (Own RLin 49 (fun q=>w7.heap.size≤q) wt w7.heap.size v0 ((s.wh.take k).map (kAM b)))∧Hid (Bx wt w2.heap.size 57 [.slice a0 m0 c0,.string y.elem,.string y.shape.row,.slice a5 y.shape.dims.length c5,v0])∧Below w2.heap.size w2 wt∧Hid (∀ q,q<w7.heap.size→q≠w2.heap.size→wt.heap[q]? =w7.heap[q]?)∧w7.heap.size≤wt.heap.size) (fun i _=>m - (intOf i).toNat)
      case atStart=>exact ⟨0,_,Nat.zero_le _,rfl,hJ (fun i hi=>absurd hi (by omega)),hJ (Own.nil _ _ _ _ _),HG7,HB7.out,hJ (fun _ _ _=>rfl),Nat.le_refl _⟩
      case round =>
       clear HG7;obtain ⟨k,v0,hk,rfl,HTw,HOw,HG,hB,HKeep,hsz⟩:=hrel;have HBw:=hJ (HW.out.trans (hB.mono HW.out.size));have HRr:Hid (Bx wr _ _ _):=hJ ((HKeep.out _ HR7.out.lt (by omega)).trans HR7.out);have hlG:=HG.out.lt;have hlR:=HRr.out.lt;obtain ⟨a6,m6,c6,rfl⟩:=HOw.out.shape;have y4:=HMore.out wr (HKeep.out _ (by omega) (by omega));by_cases hlt:k<m
       · obtain ⟨b1,off,rfl,hbW,_⟩:=HQs.out.form k hlt
         obtain ⟨t,hr,⟨at_,ct,rfl,hts⟩,e0,e1⟩:=(HQs.out.below HBw.out).lin k hlt;have HK:Hid (k<s.wh.length):=hJ (by rw [HM.out];exact hlt);have HNext:Hid ((s.wh.take (k+1)).map (kAM b)=(s.wh.take k).map (kAM b)++[kAM b (s.wh.getD k default)]):=hJ (by rw [kBB HK.out,List.map_append];rfl);have hkl:((s.wh.take k).map (kAM b)).length=k:=by rw [List.length_map,List.length_take,HM.out];omega
         have HBad:=hJ (fun q=>sch_badW (b:=b) HK.out q);have HUp:=hJ (fun q=>upto HTw.out (p:=fun j=>kAC (kAM b (s.wh.getD j default))=true) q);have HXv:=hJ (HV.out.2.2.2.2 _ (kAJ HK.out));generalize s.wh.getD k default=x at *;generalize (s.wh.take k).map (kAM b)=lk at *;have hA:Below wr.heap.size wr (wr.alloc (.cells #[.int .i64 x.const,.slice at_ x.terms.length ct] 49)):=(Below.refl _ _).alloc (Nat.le_refl _) _;have HCx:=hJ (HCL.out _ (HBw.out.trans (hA.mono HBw.out.size)) x _ (RLin.below hr hA) HXv.out);clear hr hts;cases hvx:kAC (kAM b x) with
         | false =>
           have HBd:=hJ (HBad.out hvx);rw [(lim_bad hvx).2] at HCx;clear hvx;generalize limL (kAM b x)=z at *
           go_wp2_with fail
           refine HCx.out.mono ?_;rintro e w5 ⟨⟨_,rfl,hr5⟩,hb5⟩;obtain ⟨_,rfl,a8,c8,rfl,hs5⟩:=hr5;have HP5:=hJ ((Bx.fresh wr 49 [.int .i64 x.const,.slice at_ x.terms.length ct]).below hb5 (Bx.fresh _ _ _).lt);have p0:=HP5.out.cell 0 _ rfl;have p1:=HP5.out.cell 1 _ rfl;have u10:=HP5.out.fz 0;have u11:=HP5.out.fz 1;have HB5:=hJ (hA.trans (hb5.mono (by simp)));have HR5:=hJ (HRr.out.below HB5.out HRr.out.lt);obtain ⟨w8,hfold8⟩:∃ q,(w5.setCell ⟨wr.heap.size,0,none⟩ (.int .i64 z.const)).setCell ⟨wr.heap.size,1,none⟩ (.slice a8 z.terms.length c8)=q:=⟨_,rfl⟩
           have HRw:=hJ (HR5.out.other2 (g':=wr.heap.size) (by omega) (.int .i64 z.const) (.slice a8 z.terms.length c8));rw [hfold8] at HRw;have HWw:Hid (Below w.heap.size w w8):=hJ (by rw [← hfold8];exact ((HBw.out.trans (HB5.out.mono HBw.out.size)).setCell (by show _≤wr.heap.size;omega) _).setCell (by show _≤wr.heap.size;omega) _);have v0:=HRw.out.cell 0 _ rfl;have v1:=HRw.out.cell 1 _ rfl;have v2:=HRw.out.cell 2 _ rfl;have v3:=HRw.out.cell 3 _ rfl;have v4:=HRw.out.cell 4 _ rfl;have u0:=HRw.out.fz 0;have u1:=HRw.out.fz 1;have u2:=HRw.out.fz 2;have u3:=HRw.out.fz 3;have u4:=HRw.out.fz 4;have hlr:=HRw.out.lt;have HX60:=hJ (((((HRw.out.set 0 (.slice none 0 0)).set 1 (.string ⟨#[]⟩)).set 2 (.string ⟨#[]⟩)).set 3 (.slice none 0 0)).set 4 (.slice none 0 0));have s0:=HX60.out.cell 0 _ rfl;have s1:=HX60.out.cell 1 _ rfl;have s2:=HX60.out.cell 2 _ rfl;have s3:=HX60.out.cell 3 _ rfl;have s4:=HX60.out.cell 4 _ rfl
           go_wp2_with fail
           refine bodyPost_ret (v:=.tuple #[.agg #[.slice none 0 0,.string ⟨#[]⟩,.string ⟨#[]⟩,.slice none 0 0,.slice none 0 0],.int .i64 3]) (by simp [results,results72,go_sem,s0,s1,s2,s3,s4,hlr]) rfl ?_;refine ⟨⟨[.slice none 0 0,.string ⟨#[]⟩,.string ⟨#[]⟩,.slice none 0 0,.slice none 0 0],by rw [HBd.out.2],by rw [HBd.out.1];exact kIV.no ..⟩,?_⟩
           repeat (first | exact HWw.out | refine Below.setCell ?_ (by show _≤w.heap.size+1;omega) _)
         | true =>
           have HUp2:=hJ (HUp.out hvx);clear HUp;rw [(kJ4 hvx).1,(kJ4 hvx).2] at HCx;clear hvx HBad
           go_wp2_with fail
           refine HCx.out.mono ?_;rintro e w5 ⟨⟨_,rfl,hr5⟩,hb5⟩;obtain ⟨_,rfl,a8,c8,rfl,hs5⟩:=hr5;generalize kAM b x=z at *;have HP5:=hJ ((Bx.fresh wr 49 [.int .i64 x.const,.slice at_ x.terms.length ct]).below hb5 (Bx.fresh _ _ _).lt);have p0:=HP5.out.cell 0 _ rfl;have p1:=HP5.out.cell 1 _ rfl;have u10:=HP5.out.fz 0;have u11:=HP5.out.fz 1;have HB5:=hJ (hA.trans (hb5.mono (by simp)));obtain ⟨w8,hfold8⟩:∃ q,(w5.setCell ⟨wr.heap.size,0,none⟩ (.int .i64 z.const)).setCell ⟨wr.heap.size,1,none⟩ (.slice a8 z.terms.length c8)=q:=⟨_,rfl⟩
           have HB8:Hid (Below wr.heap.size wr w8):=hJ (by rw [← hfold8];exact (HB5.out.setCell (by exact Nat.le_refl _) _).setCell (by exact Nat.le_refl _) _);have HP8:=hJ ((HP5.out.set 0 (.int .i64 z.const)).set 1 (.slice a8 z.terms.length c8));rw [hfold8] at HP8;have r0:=HP8.out.cell 0 _ rfl;have r1:=HP8.out.cell 1 _ rfl
           have HS8:Hid (Sl kCB (fun q=>wr.heap.size≤q) w8 a8 z.terms.length c8 z.terms):=hJ (by
            rw [← hfold8]
            have h1:=hs5.mono (S':=fun q=>wr.heap.size<q) (fun q hq _=>by have hq:wr.heap.size+1≤q:=by simpa using hq
                                                                          omega)
            refine Sl.mono (S:=fun q=>wr.heap.size<q) ?_ (fun q hq _=>Nat.le_of_lt hq);exact (h1.set (fun q hq=>Nat.ne_of_lt hq)).set (fun q hq=>Nat.ne_of_lt hq))
           clear hs5 hb5 HP5;have HG8:=hJ (HG.out.below HB8.out hlG);have g4:=HG8.out.cell 4 _ rfl;have hs8:=HB8.out.size;have HRY:Hid (RLin.rd (fun q=>w7.heap.size≤q∧(Value.slice a6 m6 c6).ownBlock≠some q) w8 [.int .i64 z.const,.slice a8 z.terms.length c8] z):=hJ ⟨_,rfl,a8,c8,rfl,HS8.out.mono (fun q hq _=>⟨by have:wr.heap.size≤q:=hq;omega,fun e=>by have h8:=(HOw.out.block e).2;have:wr.heap.size≤q:=hq;omega⟩)⟩;clear HS8
           go_wp2_with (at_builtin;refine kA4 kFA rfl _ _ rfl w7.heap.size _ _ rfl ((HOw.out.below HB8.out).alloc _) _ z [.int .i64 z.const,.slice a8 z.terms.length c8] rfl (RLin.below HRY.out ((Below.refl _ _).alloc (Nat.le_refl _) _)) (kA6 49 (by (simp only [kAK,kAI,Array.getElem?_push,Array.size_push];simp))) (by omega) (by unfold maxLen;omega) (by simp;omega) ?_;intro v9 w9 hown9 hb9 hk9;obtain ⟨a9,m9,c9,rfl⟩:=hown9.shape;have HG9:=hJ ((HG8.out.alloc _).kp hk9 (HOw.out.ne hl7));have g9:=HG9.out.cell 4 _ rfl;have u9:=HG9.out.fz 4)
           go_roundw
           case rel=>exact ⟨k+1,_,by omega,by go_num,HUp2,hJ (by rw [HNext.out];exact hown9.set _ (fun q hq=>Nat.ne_of_gt (Nat.lt_of_lt_of_le hl7 hq)) hl7),hJ (HG9.out.set 4 _),((hB.trans (HB8.out.mono hB.size)).trans (((Below.refl _ _).alloc (by omega) _).trans (hb9.mono (Nat.le_of_lt hl7)))).setCell (Nat.le_refl _) _,hJ (fun q hq hne=>(kAB (fun e=>hne e.symm)).trans ((((Below.refl _ _).alloc (B:=w7.heap.size) (by omega) _).trans hb9).block q hq |>.trans ((HB8.out.block q (by omega)).trans (HKeep.out q hq hne)))),by have:=hb9.size;simp at this ⊢;omega⟩
           case measure=>simp [intOf];omega
       · obtain rfl:k=m:=by omega
         have HAll:Hid ((s.wh.take k).map (kAM b)=s.wh.map (kAM b)):=hJ (by rw [List.take_of_length_le (by rw [HM.out];exact Nat.le_refl _)]);rw [HAll.out] at HOw;obtain ⟨z1,z2⟩:=HGood.out HT.out HokR.out HTw.out;have HZ1:=hJ z1;have HZ2:=hJ z2;clear z1 z2;have g0:=HG.out.cell 0 _ rfl;have g1:=HG.out.cell 1 _ rfl;have g2:=HG.out.cell 2 _ rfl;have g3:=HG.out.cell 3 _ rfl;have g4:=HG.out.cell 4 _ rfl;have v0:=HRr.out.cell 0 _ rfl;have v1:=HRr.out.cell 1 _ rfl;have v2:=HRr.out.cell 2 _ rfl;have v3:=HRr.out.cell 3 _ rfl;have v4:=HRr.out.cell 4 _ rfl;have u0:=HRr.out.fz 0;have u1:=HRr.out.fz 1;have u2:=HRr.out.fz 2;have u3:=HRr.out.fz 3;have u4:=HRr.out.fz 4;have hlr:=HRr.out.lt;have HX60:=hJ (((((HRr.out.set 0 (.slice a0 m0 c0)).set 1 (.string y.elem)).set 2 (.string y.shape.row)).set 3 (.slice a5 y.shape.dims.length c5)).set 4 (.slice a6 m6 c6));have s0:=HX60.out.cell 0 _ rfl;have s1:=HX60.out.cell 1 _ rfl;have s2:=HX60.out.cell 2 _ rfl;have s3:=HX60.out.cell 3 _ rfl;have s4:=HX60.out.cell 4 _ rfl
         go_wp2_with fail
         refine bodyPost_ret (v:=.tuple #[.agg #[.slice a0 m0 c0,.string y.elem,.string y.shape.row,.slice a5 y.shape.dims.length c5,.slice a6 m6 c6],.int .i64 0]) (by simp [results,results72,go_sem,s0,s1,s2,s3,s4,hlr]) rfl ?_;refine ⟨⟨[.slice a0 m0 c0,.string y.elem,.string y.shape.row,.slice a5 y.shape.dims.length c5,.slice a6 m6 c6],by rw [HZ2.out],?_⟩,?_⟩
         · rw [HZ1.out]
           have q2:=(HS7.out.mono (S':=fun q=>w2.heap.size<q∧q<w7.heap.size) (fun q hq hlt=>⟨hq,hlt⟩)).frame (w':=wr) (fun q hq hlt=>HKeep.out q hlt (Nat.ne_of_gt hq.1));obtain ⟨a10,c10,e10,q1⟩:=HO7.out.sl;have q1:=(q1.mono (S':=fun q=>w2.heap.size<q∧q<w7.heap.size) (fun q hq hlt=>⟨hq.elim id id,hlt⟩)).frame (w':=wr) (fun q hq hlt=>HKeep.out q hlt (Nat.ne_of_gt hq.1));rw [Value.slice.injEq] at e10;obtain ⟨rfl,rfl,rfl⟩:=e10
           have hR2:∀ {α :Type} {R:Rep α} {a:Option Addr} {n c:Nat} {l:List α},Sl R (fun q=>w2.heap.size<q∧q<w7.heap.size) wr a n c l→Sl R (fun k=>w.heap.size≤k∧k<w7.heap.size) (((((wr.setCell ⟨w.heap.size+1,0,none⟩ (.slice a0 (s.params.map (kBZ b)).length c0)).setCell ⟨w.heap.size+1,1,none⟩ (.string y.elem)).setCell ⟨w.heap.size+1,2,none⟩ (.string y.shape.row)).setCell ⟨w.heap.size+1,3,none⟩ (.slice a5 y.shape.dims.length c5)).setCell ⟨w.heap.size+1,4,none⟩ (.slice a6 m6 c6)) a n c l:=by
            intro α R a n c l hs;have hne:∀ q,(w2.heap.size<q∧q<w7.heap.size)→w.heap.size+1≠q:=fun q hq=>by omega
            exact (((((hs.set hne).set hne).set hne).set hne).set hne).mono (fun q hq _=>by omega)
           have hS3:∀ q,w7.heap.size≤q→q≠w.heap.size+1:=fun q hq=>by omega
           have hl3:w.heap.size+1<w7.heap.size:=by omega
           refine ⟨w7.heap.size,_,_,_,by omega,by rw [HY.out];rfl,⟨a0,c0,rfl,hR2 q1⟩,⟨a5,c5,by first | rfl | (rw [HY.out];rfl),?_⟩,((((HOw.out.set _ hS3 hl3).set _ hS3 hl3).set _ hS3 hl3).set _ hS3 hl3).set _ hS3 hl3⟩;have:=hR2 q2
           show Sl RLin _ _ a5 (kBZ b s.result).shape.dims.length c5 (kBZ b s.result).shape.dims
           rw [← HY.out];exact this
         · repeat (first | exact HBw.out | refine Below.setCell ?_ (by show _≤w.heap.size+1;omega) _)
def kHY (s:Sch):Int:=if kAH s then kD4 (ren (kB8 s)) s else 1
theorem can_no {s:Sch} (h:kAH s=false):kHY s=1∧can s=kA8:=by
 unfold kHY can canOk kCM;rw [h];exact ⟨rfl,rfl⟩
theorem can_bad {s:Sch} (hv:kAH s=true) (h:kCM (ren (kB8 s)) s=false):kHY s=3∧can s=kA8:=by
 unfold kHY can canOk;rw [hv,h,(sch_no h).2];exact ⟨rfl,rfl⟩
theorem can_good {s:Sch} (hv:kAH s=true) (h:kCM (ren (kB8 s)) s=true):kHY s=0∧can s=⟨s.params.map (kBZ (ren (kB8 s))),kBZ (ren (kB8 s)) s.result,tidy (s.wh.map (kAM (ren (kB8 s))))⟩:=by
 unfold kHY can canOk;rw [hv,h];refine ⟨?_,rfl⟩
 show kD4 _ _=0
 unfold kD4;rw [h];rfl
theorem ren_plain {l:List Bnd} (h:InvV l):PlainB (ren l):=by
 intro y hy;obtain ⟨i,hi,rfl⟩:=List.mem_map.1 hy;have hi:=List.mem_range.1 hi;have hb:=(h.good _ (kAJ hi)).1;unfold renAt renB;generalize l.getD i default=x at *
 split
 · show x.row.dims=[];rw [hb];rfl
 · split
   · show x.row.dims=[];rw [hb];rfl
   · show x.row.dims=[];rw [hb];rfl
theorem Raw.set2 {k:Nat} {E:TypeId} {w:World} {g:Nat} {css:List (List Value)} {rest:List Value} (h:Raw k E w g css rest) {i:Nat} {cs:List Value} (hi:css[i]? =some cs) {j j2:Nat} (hj:j<k) (hj2:j2<k) (u u2:Value):Raw k E ((w.setCell ⟨g,i * k+j,none⟩ u).setCell ⟨g,i * k+j2,none⟩ u2) g (css.set i ((cs.set j u).set j2 u2)) rest:=by
 have hl:i<css.length:=by
  rcases Nat.lt_or_ge i css.length with q | q
  · exact q
  · rw [List.getElem?_eq_none q] at hi;cases hi
 have h2:=(h.set hi hj u).set (i:=i) (cs:=cs.set j u) (List.getElem?_set_self hl) hj2 u2
 rwa [List.set_set] at h2
theorem itoa_nat (n:Nat) (hn:n≤100000) (w:World) (E:Env w):Calls Tryz.prog 70 #[.int .i64 n] w fun e w'=>e= .returned (.string (decS n))∧Below w.heap.size w w':=by
 have h:=kIB (n:Int) (by omega) (by omega) w E;have e:Lib.itoa (n:Int)=Lib.decDigits n:=by unfold Lib.itoa;rw [if_neg (by omega)];simp
 rw [e] at h;exact h
theorem canonical_1 {S:Blk} {x:Lin} {cs:List Value} {w:World} (h:RLin.rd S w cs x) :
 Calls Tryz.prog 74 #[.agg cs.toArray] w fun e w'=>e= .returned (.bool (dropL x))∧Below w.heap.size w w':=by
 have HC:=hJ (fun (W:World) (hW:Below w.heap.size w W)=>linear_Const (RLin.below h hW));obtain ⟨t,rfl,a,c,rfl,hs⟩:=h;have HD:Hid (dropL x=(x.terms.length==0 && decide (0≤x.const))):=hJ rfl;clear hs;obtain ⟨B0,ya,hW0⟩:=box1 w 49 [.int .i64 x.const,.slice a x.terms.length c];have xa0:=box0 ya 0 _ rfl;have xa1:=box0 ya 1 _ rfl;clear ya;generalize x.terms.length=n at *;by_cases h0:n=0
 · have HC2:Hid (∀ W,Below w.heap.size w W→Calls Tryz.prog 75 #[.agg #[.int .i64 x.const,.slice a n c]] W fun e w'=>e= .returned (.tuple #[.int .i64 x.const,.bool true])∧Below W.heap.size W w'):=hJ (fun W hW=>by have:=HC.out W hW;rwa [if_pos h0,decide_eq_true h0] at this)
   have HD2:Hid (dropL x=decide (0≤x.const)):=hJ (by rw [HD.out,show (n==0)=true by simpa using h0];rfl);clear HC h0;go_enter func74,ntmps74
   go_wp2_with fail
   refine (HC2.out _ B0.out).mono ?_;rintro e w1 ⟨rfl,hb⟩
   go_wp2_with fail
   go_ret;exact ⟨by rw [HD2.out];rfl,B0.out.trans (hb.mono B0.out.size)⟩
 · have HC2:Hid (∀ W,Below w.heap.size w W→Calls Tryz.prog 75 #[.agg #[.int .i64 x.const,.slice a n c]] W fun e w'=>e= .returned (.tuple #[.int .i64 0,.bool false])∧Below W.heap.size W w'):=hJ (fun W hW=>by have:=HC.out W hW;rwa [if_neg h0,decide_eq_false h0] at this)
   have HD2:Hid (dropL x=false):=hJ (by rw [HD.out,show (n==0)=false by simpa using h0];rfl);clear HC h0;go_enter func74,ntmps74
   go_wp2_with fail
   refine (HC2.out _ B0.out).mono ?_;rintro e w1 ⟨rfl,hb⟩
   go_wp2_with fail
   go_ret;exact ⟨by rw [HD2.out];rfl,B0.out.trans (hb.mono B0.out.size)⟩
theorem canErr_ok (s:Sch):kHY s=0 ↔ canOk s=true:=by
 cases hv:kAH s with
 | false =>
   rw [(can_no hv).1];unfold canOk kCM;rw [hv]
   constructor
   · intro h;cases h
   · intro h;cases h
 | true =>
   unfold canOk;cases ho:kCM (ren (kB8 s)) s with
   | false=>rw [(can_bad hv ho).1];constructor <;> (intro h;cases h)
   | true=>rw [(can_good hv ho).1];exact ⟨fun _=>rfl,fun _=>rfl⟩
def kHX (m:List Ent) (k:Nat):List Ent:=(m.take k).map canE++m.drop k
theorem canUp_zero (m:List Ent):kHX m 0=m:=by unfold kHX;simp
theorem canUp_all (m:List Ent):kHX m m.length=m.map canE:=by unfold kHX;simp
theorem canUp_len (m:List Ent) (k:Nat):(kHX m k).length=m.length:=by
 unfold kHX;rw [List.length_append,List.length_map,List.length_take,List.length_drop];omega
theorem canUp_at {m:List Ent} {k:Nat} (hk:k<m.length):(kHX m k)[k]? =some (m.getD k default):=by
 unfold kHX;rw [List.getElem?_append_right (by rw [List.length_map,List.length_take];omega),List.length_map,List.length_take,List.getElem?_drop,show k+(k - min k m.length)=k by omega];rw [List.getD_eq_getElem?_getD,List.getElem?_eq_getElem hk];rfl
theorem canUp_next {m:List Ent} {k:Nat} (hk:k<m.length):(kHX m k).set k (canE (m.getD k default))=kHX m (k+1):=by
 unfold kHX;rw [List.set_append_right _ _ (by rw [List.length_map,List.length_take];omega),List.length_map,List.length_take,show k - min k m.length=0 by omega];rw [List.drop_eq_getElem_cons hk,List.set_cons_zero,List.take_succ_eq_append_getElem hk,List.map_append,List.append_assoc];rw [List.getD_eq_getElem?_getD,List.getElem?_eq_getElem hk];rfl
def okK (mod:Str) (m:List Ent) (k:Nat):Bool:=kAZ mod && (m.take k).all goodE
theorem okK_zero (mod:Str) (m:List Ent):okK mod m 0=kAZ mod:=by unfold okK;simp
theorem okK_next {mod:Str} {m:List Ent} {k:Nat} (hk:k<m.length):okK mod m (k+1)=(okK mod m k && goodE (m.getD k default)):=by
 unfold okK;rw [List.take_succ_eq_append_getElem hk,List.all_append,Bool.and_assoc,List.getD_eq_getElem?_getD,List.getElem?_eq_getElem hk];simp
theorem okK_all {mod:Str} {m l:List Ent} (hp:m.Perm l):okK mod m m.length=mkOk mod l:=by
 unfold okK mkOk;rw [List.take_length]
 congr 1
 rw [Bool.eq_iff_iff,List.all_eq_true,List.all_eq_true];exact ⟨fun h x hx=>h x (hp.mem_iff.2 hx),fun h x hx=>h x (hp.mem_iff.1 hx)⟩
theorem goodE_err (x:Ent):goodE x=(decide (kHY x.scheme=0) && kAZ x.name):=by
 unfold goodE
 congr 1
 rw [Bool.eq_iff_iff,decide_eq_true_eq,canErr_ok]
theorem canE_name (m:List Ent) (k:Nat):((m.map canE).getD k default).name=(m.getD k default).name:=by
 rw [List.getD_eq_getElem?_getD,List.getElem?_map,List.getD_eq_getElem?_getD];cases m[k]? with
 | none=>rfl
 | some x=>rfl
theorem asc_of {m:List Ent} (hle:Le cmpE m) (h:∀ j,0<j→j<m.length→(m.getD (j - 1) default).name≠(m.getD j default).name):Asc m:=by
 have one:∀ j (h1:j<m.length) (h0:0<j),slt (m[j - 1]'(by omega)).name (m[j]'h1).name=true:=fun j h1 h0=>by
  have q:=h j h0 h1;rw [List.getD_eq_getElem?_getD,List.getElem?_eq_getElem (show j - 1<m.length by omega),List.getD_eq_getElem?_getD,List.getElem?_eq_getElem h1] at q;have p:cmpE (m[j - 1]'(by omega)) (m[j]'h1)≤0:=List.pairwise_iff_getElem.1 hle (j - 1) j (by omega) h1 (by omega);unfold cmpE at p;rw [cmpS_le] at p;cases e:slt (m[j - 1]'(by omega)).name (m[j]'h1).name with
  | true=>rfl
  | false=>exact absurd (kE4 e p) q
 refine List.pairwise_iff_getElem.2 fun i j hi hj hij=>?_
 have key:∀ d i (hi:i<m.length) (hd:i+d+1<m.length),slt m[i].name m[i+d+1].name=true:=fun d=>by
  induction d with
  | zero=>intro i hi hd;exact one (i+1) hd (by omega)
  | succ d ih=>intro i hi hd;exact kEF (ih i hi (by omega)) (one (i+d+1+1) hd (by omega))
 have:=key (j - i - 1) i hi (by omega);have e:i+(j - i - 1)+1=j:=by omega
 simpa [e] using this
theorem asc_uni {m:List Ent} (h:Asc m):Uni m:=h.imp fun {a b} hab e=>by rw [e,kE1] at hab;cases hab
theorem not_uni {m:List Ent} {j:Nat} (h0:0<j) (hj:j<m.length) (h:(m.getD (j - 1) default).name=(m.getD j default).name):¬Uni m:=fun u=>by
 rw [List.getD_eq_getElem?_getD,List.getElem?_eq_getElem (show j - 1<m.length by omega),List.getD_eq_getElem?_getD,List.getElem?_eq_getElem hj] at h;exact List.pairwise_iff_getElem.1 u (j - 1) j (by omega) hj (by omega) h
theorem says_bad {mod:Str} {m l:List Ent} (hp:m.Perm l) (h:okK mod m m.length=false):Says mod l noIfc 1:=.inl ⟨by rw [← okK_all hp];exact h,rfl,rfl⟩
theorem says_twice {mod:Str} {m l:List Ent} (hp:m.Perm l) (h:okK mod m m.length=true) {j:Nat} (h0:0<j) (hj:j<m.length) (he:(m.getD (j - 1) default).name=(m.getD j default).name):Says mod l noIfc 8 :=
 .inr (.inl ⟨by rw [← okK_all hp];exact h,fun u=>not_uni h0 hj he (u.perm hp.symm),rfl,rfl⟩)
theorem says_done {mod:Str} {m l:List Ent} (hp:m.Perm l) (h:okK mod m m.length=true) (hle:Le cmpE m) (hne:∀ j,0<j→j<m.length→(m.getD (j - 1) default).name≠(m.getD j default).name):Says mod l ⟨mod,m.map canE⟩ 0 :=
 have ha:=asc_of hle hne
 .inr (.inr ⟨by rw [← okK_all hp];exact h,(asc_uni ha).perm hp,rfl,m,hp,ha,rfl⟩)
theorem types_Canonical {S:Blk} {s:Sch} {cs:List Value} {w:World} (h:RSch.rd S w cs s) (hz:szS s) (hwl:kAH s=true→s.wh.length≤12) (E:Env w) :
 Calls Tryz.prog 35 #[.agg cs.toArray] w fun e w'=>(∃ ds,e= .returned (.tuple #[.agg ds.toArray,.int .i64 (kHY s)])∧RSch.rd (fun q=>w.heap.size≤q) w' ds (can s))∧Below w.heap.size w w':=by
 have HV:Hid (∀ W,Below w.heap.size w W→Calls Tryz.prog 36 #[.agg cs.toArray] W fun e w'=>e= .returned (.bool (kAH s))∧Below W.heap.size W w') :=
  hJ (fun W hW=>kCF (RSch.below h hW) hz (E.below hW))
 have HE:=hJ (fun (W:World) (hW:Below w.heap.size w W)=>E.below hW);have HSc:=hJ (fun (W:World) (hW:Below w.heap.size w W)=>RSch.below h hW);cases hv:kAH s with
 | false =>
   rw [hv] at HV;have HBd:=hJ (can_no hv);obtain ⟨p,t,q,rfl,⟨ap,cp,rfl,_⟩,⟨at_,ct,rfl,_⟩,⟨aq,cq,rfl,_⟩⟩:=h;clear hv;obtain ⟨B0,ya,yb,hW0⟩:=box2 w 57 [.slice ap s.params.length cp,.string s.result.elem,.string s.result.shape.row,.slice at_ s.result.shape.dims.length ct,.slice aq s.wh.length cq] 57 [.slice none 0 0,.string ⟨#[]⟩,.string ⟨#[]⟩,.slice none 0 0,.slice none 0 0];have xa0:=box0 ya 0 _ rfl;have xa1:=box0 ya 1 _ rfl;have xa2:=box0 ya 2 _ rfl;have xa3:=box0 ya 3 _ rfl;have xa4:=box0 ya 4 _ rfl;have xb0:=box0 yb 0 _ rfl;have xb1:=box0 yb 1 _ rfl;have xb2:=box0 yb 2 _ rfl;have xb3:=box0 yb 3 _ rfl;have xb4:=box0 yb 4 _ rfl;have bka:Bx _ _ _ _:=ya;have bkb:Bx _ _ _ _:=yb;clear ya yb;have HR0:=hJ bkb;clear bka bkb;go_enter func35,ntmps35
   go_wp2_with fail
   refine (HV.out _ B0.out).mono ?_;rintro e w1 ⟨rfl,hb1⟩;have HRw:=hJ (HR0.out.below hb1 HR0.out.lt);have HWw:Hid (Below w.heap.size w w1):=hJ (B0.out.trans (hb1.mono B0.out.size));clear xa0 xa1 xa2 xa3 xa4 xb0 xb1 xb2 xb3 xb4 hb1 HR0 B0 HV;have v0:=HRw.out.cell 0 _ rfl;have v1:=HRw.out.cell 1 _ rfl;have v2:=HRw.out.cell 2 _ rfl;have v3:=HRw.out.cell 3 _ rfl;have v4:=HRw.out.cell 4 _ rfl;have u0:=HRw.out.fz 0;have u1:=HRw.out.fz 1;have u2:=HRw.out.fz 2;have u3:=HRw.out.fz 3;have u4:=HRw.out.fz 4;have hlr:=HRw.out.lt;have HX60:=hJ (((((HRw.out.set 0 (.slice none 0 0)).set 1 (.string ⟨#[]⟩)).set 2 (.string ⟨#[]⟩)).set 3 (.slice none 0 0)).set 4 (.slice none 0 0));have s0:=HX60.out.cell 0 _ rfl;have s1:=HX60.out.cell 1 _ rfl;have s2:=HX60.out.cell 2 _ rfl;have s3:=HX60.out.cell 3 _ rfl;have s4:=HX60.out.cell 4 _ rfl
   go_wp2_with fail
   refine bodyPost_ret (v:=.tuple #[.agg #[.slice none 0 0,.string ⟨#[]⟩,.string ⟨#[]⟩,.slice none 0 0,.slice none 0 0],.int .i64 1]) (by simp [results,results35,go_sem,s0,s1,s2,s3,s4,hlr]) rfl ?_;refine ⟨⟨[.slice none 0 0,.string ⟨#[]⟩,.string ⟨#[]⟩,.slice none 0 0,.slice none 0 0],by rw [HBd.out.1],by rw [HBd.out.2];exact (kIV.no _ _).rd⟩,?_⟩
   repeat (first | exact HWw.out | refine Below.setCell ?_ (by show _≤w.heap.size+1;omega) _)
 | true =>
   rw [hv] at HV
   have HCV:Hid (∀ W,Below w.heap.size w W→Calls Tryz.prog 69 #[.agg cs.toArray] W fun e w'=>(∃ v,e= .returned v∧Own RBnd 114 (fun _=>False) w' W.heap.size v (kB8 s))∧Below W.heap.size W w') :=
    hJ (fun W hW=>types_Vars (HSc.out W hW) hv (HE.out W hW))
   have HInv:=hJ (kIW hv);have HLen:=hJ (varsSch_len (s:=s));have HCS:=hJ (fun (W:World) (hW:Below w.heap.size w W) (T:Blk) (a:Option Addr) (nb cb:Nat) (hbs:Sl RBnd T W a nb cb (ren (kB8 s)))=>types_SubstScheme (HSc.out W hW) hv (ren (kB8 s)) a nb cb hbs (canon_binds hv) (ren_plain (kIW hv)) (HE.out W hW));have HBad:=hJ (fun q=>can_bad hv q);have HGood:=hJ (fun q=>can_good hv q);have HWL:Hid (s.wh.length≤12):=hJ (hwl hv);obtain ⟨p,t,q,rfl,⟨ap,cp,rfl,_⟩,⟨at_,ct,rfl,_⟩,⟨aq,cq,rfl,_⟩⟩:=h;clear hv hwl HSc E;generalize kB8 s=L at *;obtain ⟨B0,ya,yb,hW0⟩:=box2 w 57 [.slice ap s.params.length cp,.string s.result.elem,.string s.result.shape.row,.slice at_ s.result.shape.dims.length ct,.slice aq s.wh.length cq] 57 [.slice none 0 0,.string ⟨#[]⟩,.string ⟨#[]⟩,.slice none 0 0,.slice none 0 0];have xa0:=box0 ya 0 _ rfl;have xa1:=box0 ya 1 _ rfl;have xa2:=box0 ya 2 _ rfl;have xa3:=box0 ya 3 _ rfl;have xa4:=box0 ya 4 _ rfl;have xb0:=box0 yb 0 _ rfl;have xb1:=box0 yb 1 _ rfl;have xb2:=box0 yb 2 _ rfl;have xb3:=box0 yb 3 _ rfl;have xb4:=box0 yb 4 _ rfl;have bka:Bx _ _ _ _:=ya;have bkb:Bx _ _ _ _:=yb;clear ya yb;have HA0:=hJ bka;have HR0:=hJ bkb;clear bka bkb;go_enter func35,ntmps35
   go_wp2_with fail
   refine (HV.out _ B0.out).mono ?_;rintro e w1 ⟨rfl,hb1⟩;have HA1:=hJ (HA0.out.below hb1 HA0.out.lt);have HR1:=hJ (HR0.out.below hb1 HR0.out.lt);have HW1:Hid (Below w.heap.size w w1):=hJ (B0.out.trans (hb1.mono B0.out.size));have hz1:w.heap.size+2≤w1.heap.size:=by have:=hb1.size;simpa using this
   clear xa0 xa1 xa2 xa3 xa4 xb0 xb1 xb2 xb3 xb4 hb1 HR0 HA0 B0 HV hW0;have y0:=HA1.out.cell 0 _ rfl;have y1:=HA1.out.cell 1 _ rfl;have y2:=HA1.out.cell 2 _ rfl;have y3:=HA1.out.cell 3 _ rfl;have y4:=HA1.out.cell 4 _ rfl;have hl1:=HA1.out.lt;have HBa:Hid (Below w1.heap.size w1 (w1.alloc (.cells #[.int .i64 0,.int .i64 0,.int .i64 0,.int .i64 0] 109))):=hJ ((Below.refl _ _).alloc (Nat.le_refl _) _)
   go_wp2_with fail
   refine (HCV.out _ (HW1.out.trans (HBa.out.mono HW1.out.size))).mono ?_;rintro e w2 ⟨⟨v,rfl,hown⟩,hb2⟩;obtain ⟨a5,c5,rfl,_⟩:=hown.sl;have HB2:=hJ (HBa.out.trans (hb2.mono HBa.out.size));have HG2:Hid (Bx w2 w1.heap.size 109 (cntV L 0)):=hJ (by rw [cntV_zero];exact (Bx.fresh w1 109 [.int .i64 0,.int .i64 0,.int .i64 0,.int .i64 0]).below hb2 (by simp));have HA2:=hJ (HA1.out.below HB2.out HA1.out.lt);have HR2:=hJ (HR1.out.below HB2.out HR1.out.lt);have HW2:=hJ (HW1.out.trans (HB2.out.mono HW1.out.size));have hz2:w1.heap.size+1≤w2.heap.size:=by have:=hb2.size;simpa using this
   have HO2:Hid (Own RBnd 114 (fun q=>w2.heap.size≤q) w2 (w1.heap.size+1) (.slice a5 L.length c5) (kGT L 0)):=hJ (by have:=hown.mono (S':=fun q=>w2.heap.size≤q) (fun k hk _=>hk.elim);simpa [renUp_zero] using this);have HSm:L.length≤3000:=HLen.out;clear hown hb2 y0 y1 y2 y3 y4 HCV HA1 HR1 hl1 HBa;generalize hn:L.length=n at *;have HN:=hJ hn;clear hn
   go_wp2_with fail
   go_loopw [19] (fun iv wr=>∃ k:Nat,k≤n∧iv= .int .i64 k∧Hid (Own RBnd 114 (fun q=>w2.heap.size≤q) wr (w1.heap.size+1) (.slice a5 n c5) (kGT L k))∧Hid (Bx wr w1.heap.size 109 (cntV L k))∧Hid (∀ q,q<w2.heap.size→q≠w1.heap.size→(Value.slice a5 n c5).ownBlock≠some q→wr.heap[q]? =w2.heap[q]?)∧Below w.heap.size w wr∧w2.heap.size≤wr.heap.size) (fun iv _=>n - (intOf iv).toNat)
   case atStart=>exact ⟨0,Nat.zero_le _,rfl,HO2,HG2,hJ (fun _ _ _ _=>rfl),HW2.out,Nat.le_refl _⟩
   case round =>
    obtain ⟨k,hk,rfl,HO,HG,HK,hB,hsz⟩:=hrel;by_cases hlt:k<n
    · have hkl:k<L.length:=by rw [HN.out];exact hlt
      obtain ⟨gb,c',css,rest,hv,hgb,hR,hL,hlc,hcm,hsl⟩:=HO.out.raw (by rw [kEH (by omega)];omega);rw [Value.slice.injEq] at hv;obtain ⟨rfl,-,rfl⟩:=hv;rw [kEH (by omega),HN.out] at hlc;obtain ⟨cs,hi,hr⟩:=hL.2 k _ (renUp_at hkl);have HGood2:=hJ (HInv.out.good _ (kAJ hkl));have HRen:=hJ (renAt1 hkl HGood2.out.1);have HNext:=hJ (renUp_next hkl);have hL3:L.length≤3000:=by rw [HN.out];exact HSm
      have hc1:=cnt_bd hL3 1 k;have hc2:=cnt_bd hL3 2 k;have hc3:=cnt_bd hL3 3 k;have HCV0:Hid (cntV L k=[.int .i64 0,.int .i64 (cntK 1 (L.take k)),.int .i64 (cntK 2 (L.take k)),.int .i64 (cntK 3 (L.take k))]):=hJ rfl;obtain ⟨kd,nv,hx⟩:∃ kd nv,L.getD k default=⟨kd,nv,⟨0,[]⟩,⟨⟨#[]⟩,[]⟩,⟨#[]⟩⟩:=⟨_,_,HGood2.out.1⟩
      rw [hx] at HRen HGood2 hr;obtain ⟨t,d,rfl,⟨ta,tc,rfl,hta⟩,⟨da,dc,rfl,hda⟩⟩:=hr;have hi:css[k]? =some [.int .i64 kd,.string nv,.int .i64 0,.slice ta 0 tc,.string ⟨#[]⟩,.slice da 0 dc,.string ⟨#[]⟩]:=hi;have HI:=hJ hi;have HTa:Hid (tc≤maxLen∧(ta=none→tc=0)):=hJ ⟨hta.max,hta.nil⟩;have HDa:Hid (dc≤maxLen∧(da=none→dc=0)):=hJ ⟨hda.max,hda.nil⟩;have hok:=HGood2.out.2;have HR:Hid (Raw 7 114 wr gb css rest):=hJ hR;have HL:=hJ hL;have HSl:Hid (css.length * 7+rest.length=c5 * 7):=hJ hsl;have hgl:=hR.lt;have hgne:w1.heap.size≠gb:=by omega
      obtain ⟨y,hy⟩:∃ y,renAt L k=y:=⟨_,rfl⟩
      have HYe:=hJ hy;rw [hy] at HNext;obtain ⟨n1,hn1⟩:∃ q,cntK 1 (L.take k)=q:=⟨_,rfl⟩
      obtain ⟨n2,hn2⟩:∃ q,cntK 2 (L.take k)=q:=⟨_,rfl⟩
      obtain ⟨n3,hn3'⟩:∃ q,cntK 3 (L.take k)=q:=⟨_,rfl⟩
      have HCe:Hid (cntK 1 (L.take k)=n1∧cntK 2 (L.take k)=n2∧cntK 3 (L.take k)=n3):=hJ ⟨hn1,hn2,hn3'⟩;rw [hn1] at hc1;rw [hn2] at hc2;rw [hn3'] at hc3;rw [hn1,hn2,hn3'] at HCV0;have HGq:=hJ (HCV0.out ▸ HG.out);have HOl:Hid (∀ q,q<w2.heap.size→(Value.slice (some ⟨gb,0,none⟩) n c5).ownBlock≠some q→q≠gb):=hJ (fun q _ h e=>h (by rw [e];rfl));clear hn1 hn2 hn3' hx hkl hta hda hR hL hsl hi hL3 HGood2 hy HO HG;rcases hok with ⟨hok,hnm⟩ | ⟨hok,hnm⟩ | ⟨hok,hnm⟩
      · skip
        have hkd:kd=1:=hok;subst hkd;have HR1':=hJ (HRen.out.at1 rfl);rw [HCe.out.1] at HR1';clear HRen;have e0:=HR.out.cell HI.out 0 _ rfl;rw [Nat.add_zero] at e0;have g1:=HGq.out.cell 1 _ rfl;have v1:=HGq.out.fz 1;have HGb:=hJ (HGq.out.set 1 (.int .i64 ((n1:Int)+1)));have HRb:Hid (Raw 7 114 (wr.setCell ⟨w1.heap.size,1,none⟩ (.int .i64 ((n1:Int)+1))) gb css rest):=hJ (HR.out.other (by show w1.heap.size≠gb;exact hgne));have HKb:Hid (∀ q,q<wr.heap.size→q≠w1.heap.size→(wr.setCell ⟨w1.heap.size,1,none⟩ (.int .i64 ((n1:Int)+1))).heap[q]? =wr.heap[q]?):=hJ (fun q hq hne=>kAB (fun e=>hne e.symm));have HBb:Hid (Below w.heap.size w (wr.setCell ⟨w1.heap.size,1,none⟩ (.int .i64 ((n1:Int)+1)))):=hJ (hB.setCell (by show w.heap.size≤w1.heap.size;omega) _);have HZb:Hid ((wr.setCell ⟨w1.heap.size,1,none⟩ (.int .i64 ((n1:Int)+1))).heap.size=wr.heap.size):=hJ (by simp)
        go_wp2_with fail
        have f0:=HRb.out.cell HI.out 0 _ rfl;have h1:=HGb.out.cell 1 _ rfl;rw [Nat.add_zero] at f0;clear e0 g1 v1;generalize (wr.setCell ⟨w1.heap.size,1,none⟩ (.int .i64 ((n1:Int)+1)))=wb at *
        have HIt:Hid (∀ t:Later wb,Calls Tryz.prog 70 #[.int .i64 ((n1:Int)+1)] t.w fun e w'=>e= .returned (.string (decS (n1+1)))∧Below t.w.heap.size t.w w'):=hJ (fun t=>by
         have h:=itoa_nat (n1+1) (by omega) t.w ((HE.out wb HBb.out).at_ t)
         rwa [Int.natCast_add,Int.natCast_one] at h)
        have hds:(decS (n1+1)).size≤6:=by
         show (Lib.decDigits (n1+1)).length≤6
         exact dec_len 5 _ (by omega)
        have HNm:Hid (∀ c:UInt8,(⟨#[c]⟩:Str)++decS (n1+1)=nm c (n1+1)):=hJ (fun c=>rfl);generalize decS (n1+1)=dd at *;have F0:=Later.cell f0;have H1:=Later.cell h1;clear f0 h1;have hix:∀ W:World,(Instr.index 115 (.agg #[.string ⟨#[]⟩,.string ⟨#[110]⟩,.string ⟨#[114]⟩,.string ⟨#[65]⟩]) (.int .i64 1)).run Tryz.prog W= .ok (.string ⟨#[110]⟩) W:=fun W=>by kernel_rfl
        refine kAA (by kernel_rfl) (by kernel_rfl) ?_
        repeat (go_big_quiet_step (first | fail | exact Later.call (HIt.out _)))
        refine wpQuiet_nil ?_;rintro _ ⟨t9,rfl⟩;have HBq:Hid (Below wb.heap.size wb t9.w):=hJ t9.b;generalize t9.w=wq at *;clear F0 H1 HIt;have hzb:wb.heap.size=wr.heap.size:=HZb.out;have hzq:=HBq.out.size;rw [hzb] at hzq;have HRq:=hJ (HRb.out.below HBq.out HRb.out.lt);have HGq2:=hJ (HGb.out.below HBq.out HGb.out.lt);have HKq:Hid (∀ q,q<wr.heap.size→q≠w1.heap.size→wq.heap[q]? =wr.heap[q]?):=hJ (fun q hq hne=>(HBq.out.block q (by rw [HZb.out];exact hq)).trans (HKb.out q hq hne));have HBw:Hid (Below w.heap.size w wq):=hJ (HBb.out.trans (HBq.out.mono HBb.out.size));have p0:=HRq.out.cell HI.out 0 _ rfl;rw [Nat.add_zero] at p0;clear hzb HRb HGb HKb HBb HBq HZb HR HGq
        go_wp2_with fail
        refine (linear_Var ((⟨#[110]⟩:Str)++dd) wq).mono ?_;rintro e w5 ⟨⟨_,rfl,hr5⟩,hb5⟩;obtain ⟨_,rfl,a9,c9,rfl,hs9⟩:=hr5;have HS9:=hJ hs9;have HR5:=hJ (HRq.out.below hb5 HRq.out.lt);have c2:=HR5.out.cell HI.out 2 _ rfl;have c3:=HR5.out.cell HI.out 3 _ rfl;have v2:=HR5.out.fz (k * 7+2);have v3:=HR5.out.fz (k * 7+3);have hz5:=hb5.size;have HRd:Hid (Raw 7 114 ((w5.setCell ⟨gb,k * 7+2,none⟩ (.int .i64 0)).setCell ⟨gb,k * 7+3,none⟩ (.slice a9 1 c9)) gb (css.set k [.int .i64 1,.string nv,.int .i64 0,.slice a9 1 c9,.string ⟨#[]⟩,.slice da 0 dc,.string ⟨#[]⟩]) rest):=hJ (HR5.out.set2 HI.out (by decide) (by decide) (.int .i64 0) (.slice a9 1 c9));have HGd:=hJ (((HGq2.out.below hb5 HGq2.out.lt).other (a:=⟨gb,k * 7+2,none⟩) (u:=.int .i64 0) (by show gb≠w1.heap.size;omega)).other (a:=⟨gb,k * 7+3,none⟩) (u:=.slice a9 1 c9) (by show gb≠w1.heap.size;omega));have HKd:Hid (∀ q,q<wr.heap.size→q≠w1.heap.size→q≠gb→((w5.setCell ⟨gb,k * 7+2,none⟩ (.int .i64 0)).setCell ⟨gb,k * 7+3,none⟩ (.slice a9 1 c9)).heap[q]? =wr.heap[q]?):=hJ (fun q hq hne hg=>(kAB (fun e=>hg e.symm)).trans ((kAB (fun e=>hg e.symm)).trans ((hb5.block q (by omega)).trans (HKq.out q hq hne))));have HBd:Hid (Below w.heap.size w ((w5.setCell ⟨gb,k * 7+2,none⟩ (.int .i64 0)).setCell ⟨gb,k * 7+3,none⟩ (.slice a9 1 c9))):=hJ (((HBw.out.trans (hb5.mono HBw.out.size)).setCell (by show w.heap.size≤gb;omega) _).setCell (by show w.heap.size≤gb;omega) _);have HZd:Hid (w2.heap.size≤((w5.setCell ⟨gb,k * 7+2,none⟩ (.int .i64 0)).setCell ⟨gb,k * 7+3,none⟩ (.slice a9 1 c9)).heap.size):=hJ (by simp;omega)
        have HRY:Hid (RBnd.rd (fun q=>w2.heap.size≤q∧q≠gb) ((w5.setCell ⟨gb,k * 7+2,none⟩ (.int .i64 0)).setCell ⟨gb,k * 7+3,none⟩ (.slice a9 1 c9)) [.int .i64 1,.string nv,.int .i64 0,.slice a9 1 c9,.string ⟨#[]⟩,.slice da 0 dc,.string ⟨#[]⟩] y):=hJ (by
         rw [← HYe.out,HR1'.out.1,← HNm.out];refine ⟨_,_,rfl,⟨a9,c9,rfl,?_⟩,⟨da,dc,rfl,Sl.zero HDa.out.1 HDa.out.2⟩⟩;have hne:∀ q,wq.heap.size≤q→gb≠q:=fun q hq=>by omega
         exact ((HS9.out.set (hne)).set hne).mono (fun q hq _=>⟨by have hq:wq.heap.size≤q:=hq;omega,fun e=>hne q hq e.symm⟩))
        clear hs9
        have HLz:Hid (Lies RBnd (fun q=>w2.heap.size≤q) ((w5.setCell ⟨gb,k * 7+2,none⟩ (.int .i64 0)).setCell ⟨gb,k * 7+3,none⟩ (.slice a9 1 c9)) gb (css.set k [.int .i64 1,.string nv,.int .i64 0,.slice a9 1 c9,.string ⟨#[]⟩,.slice da 0 dc,.string ⟨#[]⟩]) (kGT L (k+1))):=hJ (by
         rw [HNext.out];exact (HL.out.frame (w':=((w5.setCell ⟨gb,k * 7+2,none⟩ (.int .i64 0)).setCell ⟨gb,k * 7+3,none⟩ (.slice a9 1 c9))) (fun q hq hne hlt=>HKd.out q hlt (by have:w2.heap.size≤q:=hq;omega) hne)).set k HRY.out)
        have HOz:Hid (Own RBnd 114 (fun q=>w2.heap.size≤q) ((w5.setCell ⟨gb,k * 7+2,none⟩ (.int .i64 0)).setCell ⟨gb,k * 7+3,none⟩ (.slice a9 1 c9)) (w1.heap.size+1) (.slice (some ⟨gb,0,none⟩) n c5) (kGT L (k+1))):=hJ (by
         have h:=HRd.out.own HLz.out hgb (by rw [kEH (by rw [HN.out];omega),HN.out];exact hlc) hcm (by rw [List.length_set];exact HSl.out)
         rwa [kEH (by rw [HN.out];omega),HN.out] at h)
        have HGz:Hid (Bx ((w5.setCell ⟨gb,k * 7+2,none⟩ (.int .i64 0)).setCell ⟨gb,k * 7+3,none⟩ (.slice a9 1 c9)) w1.heap.size 109 (cntV L (k+1))):=hJ (by rw [HR1'.out.2,HCV0.out];exact HGd.out);have HKz:Hid (∀ q,q<w2.heap.size→q≠w1.heap.size→(Value.slice (some ⟨gb,0,none⟩) n c5).ownBlock≠some q→((w5.setCell ⟨gb,k * 7+2,none⟩ (.int .i64 0)).setCell ⟨gb,k * 7+3,none⟩ (.slice a9 1 c9)).heap[q]? =w2.heap[q]?):=hJ (fun q hq hne ho=>(HKd.out q (by omega) hne (HOl.out q hq ho)).trans (HK.out q hq hne ho))
        go_wp2_with fail
        go_roundw
        case rel=>exact ⟨k+1,by omega,by go_num,HOz,HGz,HKz,HBd.out,HZd.out⟩
        case measure=>simp [intOf];omega
      · skip
        have hkd:kd=2:=hok;subst hkd;have HR1':=hJ (HRen.out.at2 rfl);rw [HCe.out.2.1] at HR1';clear HRen;have e0:=HR.out.cell HI.out 0 _ rfl;rw [Nat.add_zero] at e0;have g1:=HGq.out.cell 2 _ rfl;have v1:=HGq.out.fz 2;have HGb:=hJ (HGq.out.set 2 (.int .i64 ((n2:Int)+1)));have HRb:Hid (Raw 7 114 (wr.setCell ⟨w1.heap.size,2,none⟩ (.int .i64 ((n2:Int)+1))) gb css rest):=hJ (HR.out.other (by show w1.heap.size≠gb;exact hgne));have HKb:Hid (∀ q,q<wr.heap.size→q≠w1.heap.size→(wr.setCell ⟨w1.heap.size,2,none⟩ (.int .i64 ((n2:Int)+1))).heap[q]? =wr.heap[q]?):=hJ (fun q hq hne=>kAB (fun e=>hne e.symm));have HBb:Hid (Below w.heap.size w (wr.setCell ⟨w1.heap.size,2,none⟩ (.int .i64 ((n2:Int)+1)))):=hJ (hB.setCell (by show w.heap.size≤w1.heap.size;omega) _);have HZb:Hid ((wr.setCell ⟨w1.heap.size,2,none⟩ (.int .i64 ((n2:Int)+1))).heap.size=wr.heap.size):=hJ (by simp)
        go_wp2_with fail
        have f0:=HRb.out.cell HI.out 0 _ rfl;have h1:=HGb.out.cell 2 _ rfl;rw [Nat.add_zero] at f0;clear e0 g1 v1;generalize (wr.setCell ⟨w1.heap.size,2,none⟩ (.int .i64 ((n2:Int)+1)))=wb at *
        have HIt:Hid (∀ t:Later wb,Calls Tryz.prog 70 #[.int .i64 ((n2:Int)+1)] t.w fun e w'=>e= .returned (.string (decS (n2+1)))∧Below t.w.heap.size t.w w'):=hJ (fun t=>by
         have h:=itoa_nat (n2+1) (by omega) t.w ((HE.out wb HBb.out).at_ t)
         rwa [Int.natCast_add,Int.natCast_one] at h)
        have hds:(decS (n2+1)).size≤6:=by
         show (Lib.decDigits (n2+1)).length≤6
         exact dec_len 5 _ (by omega)
        have HNm:Hid (∀ c:UInt8,(⟨#[c]⟩:Str)++decS (n2+1)=nm c (n2+1)):=hJ (fun c=>rfl);generalize decS (n2+1)=dd at *;have F0:=Later.cell f0;have H1:=Later.cell h1;clear f0 h1;have hix:∀ W:World,(Instr.index 115 (.agg #[.string ⟨#[]⟩,.string ⟨#[110]⟩,.string ⟨#[114]⟩,.string ⟨#[65]⟩]) (.int .i64 2)).run Tryz.prog W= .ok (.string ⟨#[114]⟩) W:=fun W=>by kernel_rfl
        refine kAA (by kernel_rfl) (by kernel_rfl) ?_
        repeat (go_big_quiet_step (first | fail | exact Later.call (HIt.out _)))
        refine wpQuiet_nil ?_;rintro _ ⟨t9,rfl⟩;have HBq:Hid (Below wb.heap.size wb t9.w):=hJ t9.b;generalize t9.w=wq at *;clear F0 H1 HIt;have hzb:wb.heap.size=wr.heap.size:=HZb.out;have hzq:=HBq.out.size;rw [hzb] at hzq;have HRq:=hJ (HRb.out.below HBq.out HRb.out.lt);have HGq2:=hJ (HGb.out.below HBq.out HGb.out.lt);have HKq:Hid (∀ q,q<wr.heap.size→q≠w1.heap.size→wq.heap[q]? =wr.heap[q]?):=hJ (fun q hq hne=>(HBq.out.block q (by rw [HZb.out];exact hq)).trans (HKb.out q hq hne));have HBw:Hid (Below w.heap.size w wq):=hJ (HBb.out.trans (HBq.out.mono HBb.out.size));have p0:=HRq.out.cell HI.out 0 _ rfl;rw [Nat.add_zero] at p0;clear hzb HRb HGb HKb HBb HBq HZb HR HGq;have c4:=HRq.out.cell HI.out 4 _ rfl;have v4:=HRq.out.fz (k * 7+4);have HRd:Hid (Raw 7 114 (wq.setCell ⟨gb,k * 7+4,none⟩ (.string ((⟨#[114]⟩:Str)++dd))) gb (css.set k [.int .i64 2,.string nv,.int .i64 0,.slice ta 0 tc,.string ((⟨#[114]⟩:Str)++dd),.slice da 0 dc,.string ⟨#[]⟩]) rest):=hJ (HRq.out.set HI.out (j:=4) (by decide) _);have HGd:=hJ (HGq2.out.other (a:=⟨gb,k * 7+4,none⟩) (u:=.string ((⟨#[114]⟩:Str)++dd)) (by show gb≠w1.heap.size;omega));have HKd:Hid (∀ q,q<wr.heap.size→q≠w1.heap.size→q≠gb→(wq.setCell ⟨gb,k * 7+4,none⟩ (.string ((⟨#[114]⟩:Str)++dd))).heap[q]? =wr.heap[q]?):=hJ (fun q hq hne hg=>(kAB (fun e=>hg e.symm)).trans (HKq.out q hq hne));have HBd:Hid (Below w.heap.size w (wq.setCell ⟨gb,k * 7+4,none⟩ (.string ((⟨#[114]⟩:Str)++dd)))):=hJ (HBw.out.setCell (by show w.heap.size≤gb;omega) _);have HZd:Hid (w2.heap.size≤(wq.setCell ⟨gb,k * 7+4,none⟩ (.string ((⟨#[114]⟩:Str)++dd))).heap.size):=hJ (by simp;omega)
        have HRY:Hid (RBnd.rd (fun q=>w2.heap.size≤q∧q≠gb) (wq.setCell ⟨gb,k * 7+4,none⟩ (.string ((⟨#[114]⟩:Str)++dd))) [.int .i64 2,.string nv,.int .i64 0,.slice ta 0 tc,.string ((⟨#[114]⟩:Str)++dd),.slice da 0 dc,.string ⟨#[]⟩] y):=hJ (by
         rw [← HYe.out,HR1'.out.1,← HNm.out];exact ⟨_,_,rfl,⟨ta,tc,rfl,Sl.zero HTa.out.1 HTa.out.2⟩,⟨da,dc,rfl,Sl.zero HDa.out.1 HDa.out.2⟩⟩)
        have HLz:Hid (Lies RBnd (fun q=>w2.heap.size≤q) (wq.setCell ⟨gb,k * 7+4,none⟩ (.string ((⟨#[114]⟩:Str)++dd))) gb (css.set k [.int .i64 2,.string nv,.int .i64 0,.slice ta 0 tc,.string ((⟨#[114]⟩:Str)++dd),.slice da 0 dc,.string ⟨#[]⟩]) (kGT L (k+1))):=hJ (by
         rw [HNext.out];exact (HL.out.frame (w':=(wq.setCell ⟨gb,k * 7+4,none⟩ (.string ((⟨#[114]⟩:Str)++dd)))) (fun q hq hne hlt=>HKd.out q hlt (by have:w2.heap.size≤q:=hq;omega) hne)).set k HRY.out)
        have HOz:Hid (Own RBnd 114 (fun q=>w2.heap.size≤q) (wq.setCell ⟨gb,k * 7+4,none⟩ (.string ((⟨#[114]⟩:Str)++dd))) (w1.heap.size+1) (.slice (some ⟨gb,0,none⟩) n c5) (kGT L (k+1))):=hJ (by
         have h:=HRd.out.own HLz.out hgb (by rw [kEH (by rw [HN.out];omega),HN.out];exact hlc) hcm (by rw [List.length_set];exact HSl.out)
         rwa [kEH (by rw [HN.out];omega),HN.out] at h)
        have HGz:Hid (Bx (wq.setCell ⟨gb,k * 7+4,none⟩ (.string ((⟨#[114]⟩:Str)++dd))) w1.heap.size 109 (cntV L (k+1))):=hJ (by rw [HR1'.out.2,HCV0.out];exact HGd.out);have HKz:Hid (∀ q,q<w2.heap.size→q≠w1.heap.size→(Value.slice (some ⟨gb,0,none⟩) n c5).ownBlock≠some q→(wq.setCell ⟨gb,k * 7+4,none⟩ (.string ((⟨#[114]⟩:Str)++dd))).heap[q]? =w2.heap[q]?):=hJ (fun q hq hne ho=>(HKd.out q (by omega) hne (HOl.out q hq ho)).trans (HK.out q hq hne ho))
        go_wp2_with fail
        go_roundw
        case rel=>exact ⟨k+1,by omega,by go_num,HOz,HGz,HKz,HBd.out,HZd.out⟩
        case measure=>simp [intOf];omega
      · skip
        have hkd:kd=3:=hok;subst hkd;have HR1':=hJ (HRen.out.at3 rfl);rw [HCe.out.2.2] at HR1';clear HRen;have e0:=HR.out.cell HI.out 0 _ rfl;rw [Nat.add_zero] at e0;have g1:=HGq.out.cell 3 _ rfl;have v1:=HGq.out.fz 3;have HGb:=hJ (HGq.out.set 3 (.int .i64 ((n3:Int)+1)));have HRb:Hid (Raw 7 114 (wr.setCell ⟨w1.heap.size,3,none⟩ (.int .i64 ((n3:Int)+1))) gb css rest):=hJ (HR.out.other (by show w1.heap.size≠gb;exact hgne));have HKb:Hid (∀ q,q<wr.heap.size→q≠w1.heap.size→(wr.setCell ⟨w1.heap.size,3,none⟩ (.int .i64 ((n3:Int)+1))).heap[q]? =wr.heap[q]?):=hJ (fun q hq hne=>kAB (fun e=>hne e.symm));have HBb:Hid (Below w.heap.size w (wr.setCell ⟨w1.heap.size,3,none⟩ (.int .i64 ((n3:Int)+1)))):=hJ (hB.setCell (by show w.heap.size≤w1.heap.size;omega) _);have HZb:Hid ((wr.setCell ⟨w1.heap.size,3,none⟩ (.int .i64 ((n3:Int)+1))).heap.size=wr.heap.size):=hJ (by simp)
        go_wp2_with fail
        have f0:=HRb.out.cell HI.out 0 _ rfl;have h1:=HGb.out.cell 3 _ rfl;rw [Nat.add_zero] at f0;clear e0 g1 v1;generalize (wr.setCell ⟨w1.heap.size,3,none⟩ (.int .i64 ((n3:Int)+1)))=wb at *
        have HIt:Hid (∀ t:Later wb,Calls Tryz.prog 70 #[.int .i64 ((n3:Int)+1)] t.w fun e w'=>e= .returned (.string (decS (n3+1)))∧Below t.w.heap.size t.w w'):=hJ (fun t=>by
         have h:=itoa_nat (n3+1) (by omega) t.w ((HE.out wb HBb.out).at_ t)
         rwa [Int.natCast_add,Int.natCast_one] at h)
        have hds:(decS (n3+1)).size≤6:=by
         show (Lib.decDigits (n3+1)).length≤6
         exact dec_len 5 _ (by omega)
        have HNm:Hid (∀ c:UInt8,(⟨#[c]⟩:Str)++decS (n3+1)=nm c (n3+1)):=hJ (fun c=>rfl);generalize decS (n3+1)=dd at *;have F0:=Later.cell f0;have H1:=Later.cell h1;clear f0 h1;have hix:∀ W:World,(Instr.index 115 (.agg #[.string ⟨#[]⟩,.string ⟨#[110]⟩,.string ⟨#[114]⟩,.string ⟨#[65]⟩]) (.int .i64 3)).run Tryz.prog W= .ok (.string ⟨#[65]⟩) W:=fun W=>by kernel_rfl
        refine kAA (by kernel_rfl) (by kernel_rfl) ?_
        repeat (go_big_quiet_step (first | fail | exact Later.call (HIt.out _)))
        refine wpQuiet_nil ?_;rintro _ ⟨t9,rfl⟩;have HBq:Hid (Below wb.heap.size wb t9.w):=hJ t9.b;generalize t9.w=wq at *;clear F0 H1 HIt;have hzb:wb.heap.size=wr.heap.size:=HZb.out;have hzq:=HBq.out.size;rw [hzb] at hzq;have HRq:=hJ (HRb.out.below HBq.out HRb.out.lt);have HGq2:=hJ (HGb.out.below HBq.out HGb.out.lt);have HKq:Hid (∀ q,q<wr.heap.size→q≠w1.heap.size→wq.heap[q]? =wr.heap[q]?):=hJ (fun q hq hne=>(HBq.out.block q (by rw [HZb.out];exact hq)).trans (HKb.out q hq hne));have HBw:Hid (Below w.heap.size w wq):=hJ (HBb.out.trans (HBq.out.mono HBb.out.size));have p0:=HRq.out.cell HI.out 0 _ rfl;rw [Nat.add_zero] at p0;clear hzb HRb HGb HKb HBb HBq HZb HR HGq;have c6:=HRq.out.cell HI.out 6 _ rfl;have v6:=HRq.out.fz (k * 7+6);have HRd:Hid (Raw 7 114 (wq.setCell ⟨gb,k * 7+6,none⟩ (.string ((⟨#[65]⟩:Str)++dd))) gb (css.set k [.int .i64 3,.string nv,.int .i64 0,.slice ta 0 tc,.string ⟨#[]⟩,.slice da 0 dc,.string ((⟨#[65]⟩:Str)++dd)]) rest):=hJ (HRq.out.set HI.out (j:=6) (by decide) _);have HGd:=hJ (HGq2.out.other (a:=⟨gb,k * 7+6,none⟩) (u:=.string ((⟨#[65]⟩:Str)++dd)) (by show gb≠w1.heap.size;omega));have HKd:Hid (∀ q,q<wr.heap.size→q≠w1.heap.size→q≠gb→(wq.setCell ⟨gb,k * 7+6,none⟩ (.string ((⟨#[65]⟩:Str)++dd))).heap[q]? =wr.heap[q]?):=hJ (fun q hq hne hg=>(kAB (fun e=>hg e.symm)).trans (HKq.out q hq hne));have HBd:Hid (Below w.heap.size w (wq.setCell ⟨gb,k * 7+6,none⟩ (.string ((⟨#[65]⟩:Str)++dd)))):=hJ (HBw.out.setCell (by show w.heap.size≤gb;omega) _);have HZd:Hid (w2.heap.size≤(wq.setCell ⟨gb,k * 7+6,none⟩ (.string ((⟨#[65]⟩:Str)++dd))).heap.size):=hJ (by simp;omega)
        have HRY:Hid (RBnd.rd (fun q=>w2.heap.size≤q∧q≠gb) (wq.setCell ⟨gb,k * 7+6,none⟩ (.string ((⟨#[65]⟩:Str)++dd))) [.int .i64 3,.string nv,.int .i64 0,.slice ta 0 tc,.string ⟨#[]⟩,.slice da 0 dc,.string ((⟨#[65]⟩:Str)++dd)] y):=hJ (by
         rw [← HYe.out,HR1'.out.1,← HNm.out];exact ⟨_,_,rfl,⟨ta,tc,rfl,Sl.zero HTa.out.1 HTa.out.2⟩,⟨da,dc,rfl,Sl.zero HDa.out.1 HDa.out.2⟩⟩)
        have HLz:Hid (Lies RBnd (fun q=>w2.heap.size≤q) (wq.setCell ⟨gb,k * 7+6,none⟩ (.string ((⟨#[65]⟩:Str)++dd))) gb (css.set k [.int .i64 3,.string nv,.int .i64 0,.slice ta 0 tc,.string ⟨#[]⟩,.slice da 0 dc,.string ((⟨#[65]⟩:Str)++dd)]) (kGT L (k+1))):=hJ (by
         rw [HNext.out];exact (HL.out.frame (w':=(wq.setCell ⟨gb,k * 7+6,none⟩ (.string ((⟨#[65]⟩:Str)++dd)))) (fun q hq hne hlt=>HKd.out q hlt (by have:w2.heap.size≤q:=hq;omega) hne)).set k HRY.out)
        have HOz:Hid (Own RBnd 114 (fun q=>w2.heap.size≤q) (wq.setCell ⟨gb,k * 7+6,none⟩ (.string ((⟨#[65]⟩:Str)++dd))) (w1.heap.size+1) (.slice (some ⟨gb,0,none⟩) n c5) (kGT L (k+1))):=hJ (by
         have h:=HRd.out.own HLz.out hgb (by rw [kEH (by rw [HN.out];omega),HN.out];exact hlc) hcm (by rw [List.length_set];exact HSl.out)
         rwa [kEH (by rw [HN.out];omega),HN.out] at h)
        have HGz:Hid (Bx (wq.setCell ⟨gb,k * 7+6,none⟩ (.string ((⟨#[65]⟩:Str)++dd))) w1.heap.size 109 (cntV L (k+1))):=hJ (by rw [HR1'.out.2,HCV0.out];exact HGd.out);have HKz:Hid (∀ q,q<w2.heap.size→q≠w1.heap.size→(Value.slice (some ⟨gb,0,none⟩) n c5).ownBlock≠some q→(wq.setCell ⟨gb,k * 7+6,none⟩ (.string ((⟨#[65]⟩:Str)++dd))).heap[q]? =w2.heap[q]?):=hJ (fun q hq hne ho=>(HKd.out q (by omega) hne (HOl.out q hq ho)).trans (HK.out q hq hne ho))
        go_wp2_with fail
        go_roundw
        case rel=>exact ⟨k+1,by omega,by go_num,HOz,HGz,HKz,HBd.out,HZd.out⟩
        case measure=>simp [intOf];omega
    · obtain rfl:k=n:=by omega
      have HAll:kGT L k=ren L:=by rw [← HN.out];exact renUp_all L
      have hO:=HO.out;rw [HAll] at hO;obtain ⟨_,_,hv,hsl⟩:=hO.sl;rw [Value.slice.injEq] at hv;obtain ⟨rfl,hkr,rfl⟩:=hv;have HCw:=hJ (HCS.out wr hB _ a5 _ c5 hsl);rw [← hkr] at HCw;have hne1:(Value.slice a5 k c5).ownBlock≠some w.heap.size:=HO.out.ne (by omega);have hne2:(Value.slice a5 k c5).ownBlock≠some (w.heap.size+1):=HO.out.ne (by omega);have HAr:Hid (Bx wr _ _ _):=hJ ((HK.out w.heap.size (by omega) (by omega) hne1).trans HA2.out);have HRr:Hid (Bx wr _ _ _):=hJ ((HK.out (w.heap.size+1) (by omega) (by omega) hne2).trans HR2.out);have y0:=HAr.out.cell 0 _ rfl;have y1:=HAr.out.cell 1 _ rfl;have y2:=HAr.out.cell 2 _ rfl;have y3:=HAr.out.cell 3 _ rfl;have y4:=HAr.out.cell 4 _ rfl;have HBr:=hJ hB;have hzr:w.heap.size+2≤wr.heap.size:=by omega
      clear HAll hO hsl hkr hne1 hne2 HO HG HK hB HO2 HG2 HCS HA2 HR2 HB2;generalize hbb:ren L=b at *;clear hbb;cases hok:kCM b s with
      | false =>
        have HBd:=hJ (HBad.out hok);rw [(sch_no hok).2,(sch_no hok).1] at HCw;clear hok HGood HBad
        go_wp2_with fail
        refine HCw.out.mono ?_;rintro e w3 ⟨⟨ds,rfl,hos⟩,hb3⟩;obtain ⟨base,p,t,q,hb0,rfl,⟨ap3,cp3,rfl,_⟩,⟨at3,ct3,rfl,_⟩,hq⟩:=hos;obtain ⟨aq3,cq3,rfl,_⟩:=hq.sl;obtain ⟨w7,hfold7⟩:∃ q,w3.alloc (.cells #[.slice ap3 kA8.params.length cp3,.string kA8.result.elem,.string kA8.result.shape.row,.slice at3 kA8.result.shape.dims.length ct3,.slice aq3 kA8.wh.length cq3] 57)=q:=⟨_,rfl⟩
        have HRw:=hJ ((HRr.out.below hb3 HRr.out.lt).alloc (.cells #[.slice ap3 kA8.params.length cp3,.string kA8.result.elem,.string kA8.result.shape.row,.slice at3 kA8.result.shape.dims.length ct3,.slice aq3 kA8.wh.length cq3] 57));rw [hfold7] at HRw;have HWw:Hid (Below w.heap.size w w7):=hJ (by rw [← hfold7];exact (HBr.out.trans (hb3.mono HBr.out.size)).alloc (by have:=hb3.size;omega) _);clear hq;have v0:=HRw.out.cell 0 _ rfl;have v1:=HRw.out.cell 1 _ rfl;have v2:=HRw.out.cell 2 _ rfl;have v3:=HRw.out.cell 3 _ rfl;have v4:=HRw.out.cell 4 _ rfl;have u0:=HRw.out.fz 0;have u1:=HRw.out.fz 1;have u2:=HRw.out.fz 2;have u3:=HRw.out.fz 3;have u4:=HRw.out.fz 4;have hlr:=HRw.out.lt;have HX60:=hJ (((((HRw.out.set 0 (.slice none 0 0)).set 1 (.string ⟨#[]⟩)).set 2 (.string ⟨#[]⟩)).set 3 (.slice none 0 0)).set 4 (.slice none 0 0));have s0:=HX60.out.cell 0 _ rfl;have s1:=HX60.out.cell 1 _ rfl;have s2:=HX60.out.cell 2 _ rfl;have s3:=HX60.out.cell 3 _ rfl;have s4:=HX60.out.cell 4 _ rfl
        go_wp2_with fail
        refine bodyPost_ret (v:=.tuple #[.agg #[.slice none 0 0,.string ⟨#[]⟩,.string ⟨#[]⟩,.slice none 0 0,.slice none 0 0],.int .i64 3]) (by simp [results,results35,go_sem,s0,s1,s2,s3,s4,hlr]) rfl ?_;refine ⟨⟨[.slice none 0 0,.string ⟨#[]⟩,.string ⟨#[]⟩,.slice none 0 0,.slice none 0 0],by rw [HBd.out.1],by rw [HBd.out.2];exact (kIV.no _ _).rd⟩,?_⟩
        repeat (first | exact HWw.out | refine Below.setCell ?_ (by show _≤w.heap.size+1;omega) _)
      | true =>
        obtain ⟨hg0,hg1⟩:=HGood.out hok;have HG0:=hJ hg0;have HG1:=hJ hg1;have HE0:kD4 b s=0:=by unfold kD4;rw [hok];rfl
        have HS1:kIM b s=kGO b s:=by unfold kIM;rw [hok];rfl
        rw [HE0,HS1] at HCw;have HSw:Hid ((kGO b s).wh=s.wh.map (kAM b)):=hJ rfl;have HSp:Hid (can s=⟨(kGO b s).params,(kGO b s).result,tidy (kGO b s).wh⟩):=hJ hg1;have hwl12:(kGO b s).wh.length≤12:=by rw [HSw.out,List.length_map];exact HWL.out
        clear hok HGood HBad hg0 hg1 HE0 HS1 HG1 HSw;generalize kGO b s=s' at *
        go_wp2_with fail
        refine HCw.out.mono ?_;rintro e w3 ⟨⟨ds,rfl,hos⟩,hb3⟩;obtain ⟨base,p,t,q,hb0,rfl,⟨ap3,cp3,rfl,hp3⟩,⟨at3,ct3,rfl,ht3⟩,hq⟩:=hos;obtain ⟨aq3,cq3,rfl,_⟩:=hq.sl;obtain ⟨w7,hfold7⟩:∃ q,w3.alloc (.cells #[.slice ap3 s'.params.length cp3,.string s'.result.elem,.string s'.result.shape.row,.slice at3 s'.result.shape.dims.length ct3,.slice aq3 s'.wh.length cq3] 57)=q:=⟨_,rfl⟩
        have HB7:Hid (Below w3.heap.size w3 w7):=hJ (by rw [← hfold7];exact (Below.refl _ _).alloc (Nat.le_refl _) _);have HP7:Hid (Bx w7 w3.heap.size 57 [.slice ap3 s'.params.length cp3,.string s'.result.elem,.string s'.result.shape.row,.slice at3 s'.result.shape.dims.length ct3,.slice aq3 s'.wh.length cq3]):=hJ (by rw [← hfold7];exact Bx.fresh _ _ _);have hz3:=hb3.size;have hz7:w3.heap.size<w7.heap.size:=HP7.out.lt;have HR7:=hJ ((HRr.out.below hb3 HRr.out.lt).below HB7.out (by have:=HRr.out.lt;omega));have HW7:Hid (Below w.heap.size w w7):=hJ ((HBr.out.trans (hb3.mono HBr.out.size)).trans (HB7.out.mono (by omega)));have HOB:Hid (∀ q,(Value.slice aq3 s'.wh.length cq3).ownBlock=some q→base≤q∧q<w3.heap.size):=hJ (fun q h=>hq.block h);have HOq:Hid (Own RLin 49 (fun k=>wr.heap.size≤k∧k≠w3.heap.size) w7 wr.heap.size (.slice aq3 s'.wh.length cq3) s'.wh):=hJ ((((hq.lower hb0).mono (S':=fun k=>wr.heap.size≤k∧k≠w3.heap.size) (fun k hk hlt=>⟨by have hk:base≤k:=hk;omega,by omega⟩))).below HB7.out);have HPs:=hJ hp3;have HTs:=hJ ht3;have HDel:=hJ (delete_Lin HOq.out (by omega) (by omega) 74 (kBG func74 rfl rfl) dropL (fun S' W x cs hr=>canonical_1 hr));have p4:=HP7.out.cell 4 _ rfl;clear hp3 ht3 hq HCw
        go_wp2_with fail
        refine HDel.out.mono ?_;rintro e w8 ⟨⟨v1,rfl,hown8,hk8⟩,hb8⟩;clear HDel;have hz8:w7.heap.size≤w8.heap.size:=hb8.size;have HN8:Hid (v1.ownBlock≠some w3.heap.size):=hJ (fun e=>(hk8.own _ e).elim (fun e=>by have:=(HOB.out _ e).2;omega) (fun e=>by omega));have HK8:Hid (∀ q,q<w7.heap.size→q≠w3.heap.size→(Value.slice aq3 s'.wh.length cq3).ownBlock≠some q→w8.heap[q]? =w7.heap[q]?):=hJ (fun q hq _ hne=>hk8.block q hq hne);have HV8:Hid (∀ q,v1.ownBlock=some q→(Value.slice aq3 s'.wh.length cq3).ownBlock=some q∨w7.heap.size≤q):=hJ hk8.own;have HP8:Hid (Bx w8 w3.heap.size _ _):=hJ ((hk8.block w3.heap.size hz7 (fun e=>by have:=(HOB.out _ e).2;omega)).trans HP7.out);have HB8:=hJ hb8;have hl8:(s'.wh.filter (fun x=> !dropL x)).length≤12:=Nat.le_trans (List.length_filter_le _ _) hwl12;obtain ⟨a8,m8,c8,rfl⟩:=hown8.shape;have HO8:=hJ hown8;clear hown8 hk8 hb8;have q4:=HP8.out.cell 4 _ rfl;have f4:=HP8.out.fz 4;obtain ⟨w9,hfold9⟩:∃ q,w8.setCell ⟨w3.heap.size,4,none⟩ (.slice a8 m8 c8)=q:=⟨_,rfl⟩
        have HP9:Hid (Bx w9 w3.heap.size 57 [.slice ap3 s'.params.length cp3,.string s'.result.elem,.string s'.result.shape.row,.slice at3 s'.result.shape.dims.length ct3,.slice a8 m8 c8]):=hJ (by rw [← hfold9];exact HP8.out.set 4 _);have HH9:Hid (∀ q,q≠w3.heap.size→w9.heap[q]? =w8.heap[q]?):=hJ (fun q hq=>by rw [← hfold9];exact kAB (fun e=>hq e.symm));have hz9:w9.heap.size=w8.heap.size:=by rw [← hfold9];simp
        have HO9:Hid (Own RLin 49 (fun k=>wr.heap.size≤k∧k≠w3.heap.size) w9 wr.heap.size (.slice a8 m8 c8) (s'.wh.filter (fun x=> !dropL x))):=hJ (HO8.out.frame (fun k hk h=>HH9.out k (by rcases h with h | h;exact h.2;exact fun e=>HN8.out (by rw [← e];exact h))) (by omega));have HB9:Hid (Below wr.heap.size w7 w9):=hJ (by rw [← hfold9];exact HB8.out.setCell (by show wr.heap.size≤w3.heap.size;omega) _);have HSrt:=hJ (sortFunc_Lin HO9.out (by omega) hl8 77 (kBG func77 rfl rfl) kCI totLin.pre (fun S' T' W x y cs ds h1 h2=>linear_Compare h1 h2));have r4:=HP9.out.cell 4 _ rfl;have HZ9:=hJ hz9;clear hz9
        go_wp2_with fail
        refine HSrt.out.mono ?_;rintro e w10 ⟨⟨rfl,m,hperm,hle,hown10,hk10⟩,hb10⟩;clear HSrt;have hz10:w8.heap.size≤w10.heap.size:=by have:=hb10.size;rw [HZ9.out] at this;exact this
        have HP10:Hid (Bx w10 w3.heap.size _ _):=hJ ((hk10.block w3.heap.size HP9.out.lt HN8.out).trans HP9.out);have HK10:Hid (∀ q,q<w7.heap.size→q≠w3.heap.size→(Value.slice aq3 s'.wh.length cq3).ownBlock≠some q→w10.heap[q]? =w7.heap[q]?):=hJ (fun q hq hn ho=>(hk10.block q (by rw [HZ9.out];omega) (fun e=>(HV8.out q e).elim ho (fun e=>by omega))).trans ((HH9.out q hn).trans (HK8.out q hq hn ho)));have HB10:Hid (Below wr.heap.size w7 w10):=hJ (HB9.out.trans hb10);have hl10:m.length≤12:=by rw [hperm.length_eq];exact hl8
        have HTd:Hid (kept (newB kCX m) m m.length=tidy s'.wh):=hJ (by
         rw [← compG_kept kGJ];exact comp_tidy totLin kGJ dropL s'.wh m hle (fun z=>hperm.mem_iff))
        have HCpt:=hJ (compact_Lin hown10 (by omega) (by omega) 79 (kBG func79 rfl rfl) kCX (fun S' T' W x y cs ds h1 h2=>types_same h1 h2));rw [HTd.out] at HCpt;have t4:=HP10.out.cell 4 _ rfl;clear hperm hle hown10 hk10 hb10 hl8 hl10 HTd
        go_wp2_with fail
        refine HCpt.out.mono ?_;rintro e w11 ⟨⟨v2,rfl,hown11,hk11⟩,hb11⟩;clear HCpt;have hz11:w10.heap.size≤w11.heap.size:=hb11.size;obtain ⟨a11,c11,rfl,hs11⟩:=hown11.sl;have HP11:Hid (Bx w11 w3.heap.size _ _):=hJ ((hk11.block w3.heap.size HP10.out.lt HN8.out).trans HP10.out);have HK11:Hid (∀ q,q<w7.heap.size→q≠w3.heap.size→(Value.slice aq3 s'.wh.length cq3).ownBlock≠some q→w11.heap[q]? =w7.heap[q]?):=hJ (fun q hq hn ho=>(hk11.block q (by omega) (fun e=>(HV8.out q e).elim ho (fun e=>by omega))).trans (HK10.out q hq hn ho));have HN11:Hid ((Value.slice a11 (tidy s'.wh).length c11).ownBlock≠some w3.heap.size):=hJ (fun e=>(hk11.own _ e).elim HN8.out (fun e=>by omega));have HO11:=hJ hown11;have HB11:Hid (Below wr.heap.size w7 w11):=hJ (HB10.out.trans hb11);clear hown11 hk11 hb11 hs11;have u4:=HP11.out.cell 4 _ rfl;have g4:=HP11.out.fz 4;have HP12:=hJ (HP11.out.set 4 (.slice a11 (tidy s'.wh).length c11));have p0:=HP12.out.cell 0 _ rfl;have p1:=HP12.out.cell 1 _ rfl;have p2:=HP12.out.cell 2 _ rfl;have p3:=HP12.out.cell 3 _ rfl;have p4':=HP12.out.cell 4 _ rfl;have HRw:Hid (Bx (w11.setCell ⟨w3.heap.size,4,none⟩ (.slice a11 (tidy s'.wh).length c11)) (w.heap.size+1) 57 _):=hJ ((HR7.out.below HB11.out (by omega)).other (by show w3.heap.size≠w.heap.size+1;omega));have v0:=HRw.out.cell 0 _ rfl;have v1:=HRw.out.cell 1 _ rfl;have v2:=HRw.out.cell 2 _ rfl;have v3:=HRw.out.cell 3 _ rfl;have v4:=HRw.out.cell 4 _ rfl;have u0:=HRw.out.fz 0;have u1:=HRw.out.fz 1;have u2:=HRw.out.fz 2;have u3:=HRw.out.fz 3;have u4':=HRw.out.fz 4;have hlr:=HRw.out.lt;have HX60:=hJ (((((HRw.out.set 0 (.slice ap3 s'.params.length cp3)).set 1 (.string s'.result.elem)).set 2 (.string s'.result.shape.row)).set 3 (.slice at3 s'.result.shape.dims.length ct3)).set 4 (.slice a11 (tidy s'.wh).length c11));have s0:=HX60.out.cell 0 _ rfl;have s1:=HX60.out.cell 1 _ rfl;have s2:=HX60.out.cell 2 _ rfl;have s3:=HX60.out.cell 3 _ rfl;have s4:=HX60.out.cell 4 _ rfl
        go_wp2_with fail
        refine bodyPost_ret (v:=.tuple #[.agg #[.slice ap3 s'.params.length cp3,.string s'.result.elem,.string s'.result.shape.row,.slice at3 s'.result.shape.dims.length ct3,.slice a11 (tidy s'.wh).length c11],.int .i64 0]) (by simp [results,results35,go_sem,s0,s1,s2,s3,s4,hlr]) rfl ?_;have hF:∀ q,q≠w3.heap.size→q≠w.heap.size+1→((((((w11.setCell ⟨w3.heap.size,4,none⟩ (.slice a11 (tidy s'.wh).length c11)).setCell ⟨w.heap.size+1,0,none⟩ (.slice ap3 s'.params.length cp3)).setCell ⟨w.heap.size+1,1,none⟩ (.string s'.result.elem)).setCell ⟨w.heap.size+1,2,none⟩ (.string s'.result.shape.row)).setCell ⟨w.heap.size+1,3,none⟩ (.slice at3 s'.result.shape.dims.length ct3)).setCell ⟨w.heap.size+1,4,none⟩ (.slice a11 (tidy s'.wh).length c11)).heap[q]? =w11.heap[q]? :=fun q h1 h2=>(kAB (fun e=>h2 e.symm)).trans ((kAB (fun e=>h2 e.symm)).trans ((kAB (fun e=>h2 e.symm)).trans ((kAB (fun e=>h2 e.symm)).trans ((kAB (fun e=>h2 e.symm)).trans (kAB (fun e=>h1 e.symm))))))
        have hFp:∀ q,(wr.heap.size≤q∧q<base)→q<w3.heap.size→((((((w11.setCell ⟨w3.heap.size,4,none⟩ (.slice a11 (tidy s'.wh).length c11)).setCell ⟨w.heap.size+1,0,none⟩ (.slice ap3 s'.params.length cp3)).setCell ⟨w.heap.size+1,1,none⟩ (.string s'.result.elem)).setCell ⟨w.heap.size+1,2,none⟩ (.string s'.result.shape.row)).setCell ⟨w.heap.size+1,3,none⟩ (.slice at3 s'.result.shape.dims.length ct3)).setCell ⟨w.heap.size+1,4,none⟩ (.slice a11 (tidy s'.wh).length c11)).heap[q]? =w3.heap[q]? :=fun q h1 h2=>(hF q (by omega) (by omega)).trans ((HK11.out q (by omega) (by omega) (fun e=>by have:=(HOB.out q e).1;omega)).trans (HB7.out.block q h2))
        refine ⟨⟨[.slice ap3 s'.params.length cp3,.string s'.result.elem,.string s'.result.shape.row,.slice at3 s'.result.shape.dims.length ct3,.slice a11 (tidy s'.wh).length c11],by rw [HG0.out],?_⟩,?_⟩
        · rw [HSp.out]
          obtain ⟨a12,c12,e12,hs12⟩:=HO11.out.sl;rw [Value.slice.injEq] at e12;obtain ⟨rfl,-,rfl⟩:=e12;refine ⟨_,_,_,rfl,⟨ap3,cp3,rfl,(HPs.out.frame hFp).mono (fun k hk _=>by omega)⟩,⟨at3,ct3,rfl,(HTs.out.frame hFp).mono (fun k hk _=>by omega)⟩,⟨a11,c11,rfl,?_⟩⟩;obtain ⟨a13,c13,e13,hs13,_⟩:=HO11.out.slAt;rw [Value.slice.injEq] at e13;obtain ⟨rfl,-,rfl⟩:=e13;have hA:∀ k,At a11 k→wr.heap.size≤k∧k≠w3.heap.size:=fun k hk=>⟨HO11.out.base_le k (at_own hk),fun e=>HN11.out (by rw [← e];exact at_own hk)⟩
          exact (hs13.frame (fun k hk _=>hF k (by rcases hk with hk | hk;exact hk.2;exact (hA k hk).2) (by rcases hk with hk | hk;exact (by have:=hk.1;omega);exact (by have:=(hA k hk).1;omega)))).mono (fun k hk _=>by rcases hk with hk | hk;exact (by have:=hk.1;omega);exact (by have:=(hA k hk).1;omega))
        · have hB':=HW7.out.trans (HB11.out.mono (B':=w.heap.size) (by omega))
          exact (((((hB'.setCell (by show w.heap.size≤w3.heap.size;omega) _).setCell (by show w.heap.size≤w.heap.size+1;omega) _).setCell (by show w.heap.size≤w.heap.size+1;omega) _).setCell (by show w.heap.size≤w.heap.size+1;omega) _).setCell (by show w.heap.size≤w.heap.size+1;omega) _).setCell (by show w.heap.size≤w.heap.size+1;omega) _
end Go.Proofs.YtdjggkiagmlfpaaGreatDoor
