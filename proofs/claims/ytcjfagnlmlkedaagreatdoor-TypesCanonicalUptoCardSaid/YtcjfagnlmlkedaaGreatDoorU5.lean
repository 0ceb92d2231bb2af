/- The claim's texts, part U5: contracts of the functions that the statement reaches, and what they say of the data. -/
import Derived.Test.YtcjfagnlmlkedaaGreatDoorU4
set_option maxRecDepth 100000
set_option maxHeartbeats 8000000
set_option linter.all false
namespace Go.Proofs.YtcjfagnlmlkedaaGreatDoor
open Go.Proofs.Tryz
open Go.RowKit
def kCF (b:List Bnd):Prop:=∀ y ∈ b,y.row.dims=[]
theorem subShp_good {b:List Bnd} {s:Shp} {row:Str} {D:List Lin} (hR:kBP b s=⟨row,D⟩) (hd:∀ i,i<s.dims.length→kAB (kAD b (s.dims.getD i default))=true) (h6:D.length+s.dims.length≤6):kGK b s=⟨row,D++s.dims.map (kAD b)⟩∧kCL b s=0:=by
 have:kA0 b s=true:=by
  unfold kA0 dimsOk;rw [zA,List.all_eq_true];refine ⟨fun x hx=>?_,decide_eq_true (by rw [hR];exact h6)⟩;obtain ⟨i,hi,e⟩:=List.getElem_of_mem hx;have:=hd i hi;rw [zD,zG hi] at this;rw [← e];exact this
 unfold kGK kCL;rw [this];refine ⟨?_,rfl⟩
 show kFZ b s=_
 unfold kFZ;rw [hR]
theorem subShp_no {b:List Bnd} {s:Shp} (h:kA0 b s=false):kGK b s=kEN∧kCL b s=3:=by
 unfold kGK kCL;rw [h];exact ⟨rfl,rfl⟩
theorem subShp_bad {b:List Bnd} {s:Shp} {i:Nat} (hi:i<s.dims.length) (hd:kAB (kAD b (s.dims.getD i default))=false):kGK b s=kEN∧kCL b s=3:=subShp_no (by
 unfold kA0 dimsOk;rw [Bool.and_eq_false_iff,List.all_eq_false];exact .inl ⟨_,kAM hi,by rw [hd];decide⟩)
theorem subShp_long {b:List Bnd} {s:Shp} {row:Str} {D:List Lin} (hR:kBP b s=⟨row,D⟩) (h6:¬ D.length+s.dims.length≤6):kGK b s=kEN∧kCL b s=3:=subShp_no (by
 unfold kA0;rw [hR,decide_eq_false h6,Bool.and_false])
theorem subRow_good {b:List Bnd} (hb:kA8 b=true) {k:Nat} {s:Shp} (hk:kAW b 2 s.row=(k:Int)) (hl:k<b.length):kAK (b.getD k default).row=true:=by
 have q:0≤kAW b 2 s.row:=by omega
 obtain ⟨h1,h2⟩:=kHQ q;rw [hk,Int.toNat_natCast] at h1 h2;have:=kES hb h1;unfold kCV at this;rw [if_neg (by omega),if_pos h2,zA,zA] at this;exact this.2.1
theorem kE1 {x:Lin} (h:kAB x=true):limL x=x∧limE x=0:=by unfold limL limE;rw [h];exact ⟨rfl,rfl⟩
theorem lim_bad {x:Lin} (h:kAB x=false):limL x=⟨0,[]⟩∧limE x=3:=by unfold limL limE;rw [h];exact ⟨rfl,rfl⟩
theorem shape_made {S:Blk} (row:Str) (l:List Lin) (a:Option Addr) (n c:Nat) (w:World) (h:Sl RLin S w a n c l) (hn:n≤6) (hl:∀ x ∈ l,x.terms.length≤1000) :
 Calls Tryz.prog 148 #[.string row,.slice a n c] w fun e w'=>(∃ ds,e= .returned (.tuple #[.agg ds.toArray,.int .i64 0])∧RShp.rd (fun k=>w.heap.size≤k) w' ds ⟨row,l⟩)∧Below w.heap.size w w':=by
 have HL:=hJ h.len;have B0:Hid (Below w.heap.size w (w.alloc (.cells #[.string ⟨#[]⟩,.slice none 0 0] 25))):=hJ ((zB _ _).alloc (zR _) _);have HC:=hJ (shape_clones l a n c _ (h.below B0.out) (by omega) hl);have HT:=hJ (Bx.fresh w 25 [.string ⟨#[]⟩,.slice none 0 0]);clear h hl;go_enter func148,ntmps148
 go_wp2_with fail
 refine HC.out.mono ?_;rintro e w1 ⟨⟨v,rfl,hown⟩,hb⟩;obtain ⟨a1,c1,rfl,hs1⟩:=hown.sl;rw [HL.out] at hs1 ⊢;have HX:=hJ (HT.out.below hb (by simp));have u0:=HX.out.cell 0 _ rfl;have u1:=HX.out.cell 1 _ rfl;have u2:=HX.out.fz 0;have u3:=HX.out.fz 1;have HX60:=hJ ((HX.out.set 0 (.string row)).set 1 (.slice a1 n c1));have s0:=HX60.out.cell 0 _ rfl;have s1:=HX60.out.cell 1 _ rfl;have HS1:=hJ hs1;clear hs1 hown
 go_wp2_with fail
 refine bodyPost_ret (v:=.tuple #[.agg #[.string row,.slice a1 n c1],.int .i64 0]) (by simp [results,results148,go_sem,s0,s1]) rfl ?_;refine ⟨⟨[.string row,.slice a1 n c1],rfl,⟨_,rfl,a1,c1,by rw [HL.out],?_⟩⟩,((B0.out.trans (hb.mono (by simp))).setCell (zR _) _).setCell (zR _) _⟩
 show Sl RLin _ _ a1 l.length c1 l
 rw [HL.out];refine (HS1.out.frame fun q hq _=>?_).mono (fun q hq _=>?_)
 · have hq:w.heap.size+1≤q:=by rcases hq with hq | hq <;> simpa using hq
   rw [kAA (by show w.heap.size≠q;omega),kAA (by show w.heap.size≠q;omega)]
 · have hq:w.heap.size+1≤q:=by rcases hq with hq | hq <;> simpa using hq
   omega
theorem kEL (row:Str) (a:Option Addr) (n c:Nat) (w:World) (hn:¬ n≤6) (hm:n≤1000) :
 Calls Tryz.prog 148 #[.string row,.slice a n c] w fun e w'=>e= .returned (.tuple #[.agg #[.string ⟨#[]⟩,.slice none 0 0],.int .i64 3])∧Below w.heap.size w w':=by
 have B0:Hid (Below w.heap.size w (w.alloc (.cells #[.string ⟨#[]⟩,.slice none 0 0] 25))):=hJ ((zB _ _).alloc (zR _) _);have HT:=hJ (Bx.fresh w 25 [.string ⟨#[]⟩,.slice none 0 0]);have HX60:=hJ (((HT.out.alloc (.cells #[.string ⟨#[]⟩,.slice none 0 0] 25)).set 0 (.string ⟨#[]⟩)).set 1 (.slice none 0 0));have s0:=HX60.out.cell 0 _ rfl;have s1:=HX60.out.cell 1 _ rfl;go_enter func148,ntmps148
 (try simp only []);repeat (first | go_values | go_skip | go_guarded | go_step | go_upon)
 refine bodyPost_ret (v:=.tuple #[.agg #[.string ⟨#[]⟩,.slice none 0 0],.int .i64 3]) (by simp [results,results148,go_sem,s0,s1]) rfl ?_;exact ⟨rfl,B0.out⟩
theorem shape_Subst {S T:Blk} {s:Shp} {cs:List Value} {w:World} (h:RShp.rd S w cs s) (hv:kAK s=true) (b:List Bnd) (a:Option Addr) (nb cb:Nat) (hbs:Sl RBnd T w a nb cb b) (hb:kA8 b=true) (E:Env w) :
 Calls Tryz.prog 91 #[.agg cs.toArray,.slice a nb cb] w fun e w'=>(∃ ds,e= .returned (.tuple #[.agg ds.toArray,.int .i64 (kCL b s)])∧RShp.rd (fun k=>w.heap.size≤k) w' ds (kGK b s))∧Below w.heap.size w w':=by
 have HCV:Hid (∀ W,Below w.heap.size w W→Calls Tryz.prog 120 #[.agg cs.toArray] W fun e w'=>e= .returned (.bool true)∧Below W.heap.size W w') :=
  hJ (fun W hW=>hv ▸ kDI (RShp.below h hW) (shp_sz hv) (E.below hW))
 have HCB:Hid (∀ W,Below w.heap.size w W→Calls Tryz.prog 38 #[.slice a nb cb] W fun e w'=>e= .returned (.bool true)∧Below W.heap.size W w') :=
  hJ (fun W hW=>kD2 b a nb cb W (hbs.below hW) hb (E.below hW))
 obtain ⟨_,rfl,ad,cd,rfl,hds⟩:=h;have HDs:=hJ hds;have HBS:=hJ hbs;have HD:=hJ (kB1 hv);have HG:=hJ (kDN hb);have EE:=hJ E;have HGood:=hJ (fun (row:Str) (D:List Lin) (q1:kBP b s=⟨row,D⟩) q2 q3=>subShp_good (b:=b) (s:=s) q1 q2 q3);have HBad:=hJ (fun (i:Nat) (q1:i<s.dims.length) q2=>subShp_bad (b:=b) (s:=s) q1 q2);have HLong:=hJ (fun (row:Str) (D:List Lin) (q1:kBP b s=⟨row,D⟩) q2=>subShp_long (b:=b) (s:=s) q1 q2);have HRg:=hJ (fun (k:Nat) q1 q2=>subRow_good (b:=b) (s:=s) (k:=k) hb q1 q2);have HRow:Hid (kBP b s=if s.row.toList.isEmpty then ⟨s.row,[]⟩ else if 0≤kAW b 2 s.row then (b.getD (kAW b 2 s.row).toNat default).row else ⟨s.row,[]⟩):=hJ rfl;have hmd:=hds.small;have hnb:=hbs.small;have hd6:=(kB1 hv).1;clear hds hbs hv hb E;generalize hnd:s.dims.length=n at *;have HND:=hJ hnd;clear hnd;obtain ⟨B0,ya,yb,hW0⟩:=box2 w 25 [.string s.row,.slice ad n cd] 25 [.string ⟨#[]⟩,.slice none 0 0];have xa0:=box0 ya 0 _ rfl;have xa1:=box0 ya 1 _ rfl;have xb0:=box0 yb 0 _ rfl;have xb1:=box0 yb 1 _ rfl;have bka:Bx _ _ _ _:=ya;have bkb:Bx _ _ _ _:=yb;clear ya yb;have HB4:=hJ bkb;clear bka bkb;go_enter func91,ntmps91
 go_wp2_with fail
 refine (HCV.out _ B0.out).mono ?_;rintro e w1 ⟨rfl,hb1⟩;have hW1:=B0.out.trans (hb1.mono B0.out.size)
 go_wp2_with fail
 refine (HCB.out _ hW1).mono ?_;rintro e w2 ⟨rfl,hb2⟩;have HW:=hJ (hW1.trans (hb2.mono hW1.size));have y0:=kAE (kAE xa0 _ hb1) _ hb2;have y1:=kAE (kAE xa1 _ hb1) _ hb2;have HX4:=hJ ((HB4.out.below hb1 HB4.out.lt).below hb2 (HB4.out.below hb1 HB4.out.lt).lt);have hl4:=HX4.out.lt;clear xa0 xa1 xb0 xb1 hb1 hb2 hW1 HB4;have HCF:=hJ (kHE b a nb cb w2 (HBS.out.below HW.out) 2 s.row)
 have HFnd:Hid (0≤kAW b 2 s.row→∃ k:Nat,kAW b 2 s.row=(k:Int)∧k<b.length):=hJ (fun q=>by
  unfold kAW idx at q ⊢;by_cases ha:b.any (isB 2 s.row)=true
  · rw [if_pos ha] at q ⊢
    exact ⟨b.findIdx (isB 2 s.row),rfl,(kGH ha).1⟩
  · rw [if_neg ha] at q;omega)
 go_wp2_with fail
 refine (HCF.out).mono ?_;rintro e w3 ⟨rfl,hb3⟩;have HW3:=hJ (HW.out.trans (hb3.mono HW.out.size));have g0:=kAE y0 _ hb3;have g1:=kAE y1 _ hb3;have HX43:=hJ (HX4.out.below hb3 hl4);have hl43:=HX43.out.lt;clear y0 y1 hb3 HX4;by_cases he:s.row.toList.isEmpty=true
 · obtain ⟨D,hD⟩:∃ D:List Lin,D=[]:=⟨_,rfl⟩
   have HR:Hid (kBP b s=⟨s.row,D⟩):=hJ (by rw [hD,HRow.out,if_pos he]);have HDl:Hid (D.length=0):=hJ (by rw [hD];rfl);have HDt:Hid (∀ x ∈ D,x.terms.length≤1000):=hJ (by rw [hD];exact fun x hx=>by cases hx);have HO0:Hid (Own RLin 40 (fun q=>w3.heap.size≤q) w3 w3.heap.size (.slice none 0 0) D):=hJ (by rw [hD];exact Own.nil _ _ _ _ _);obtain ⟨nd,hnd⟩:∃ nd:Nat,nd=0:=⟨_,rfl⟩
   rw [← hnd] at HDl;have hnd6:nd≤6:=by omega
   obtain ⟨B,hBe⟩:∃ B,B=w3.heap.size:=⟨_,rfl⟩
   have hBw:w.heap.size≤B:=by rw [hBe];exact HW3.out.size
   have hBl:w.heap.size+1<B:=by rw [hBe];exact hl43
   have hBs:B≤w3.heap.size:=by rw [hBe];exact zR _
   rw [← hBe] at HO0;clear hD hnd hBe;clear HRow;generalize kAW b 2 s.row=q at *
   go_wp2_with fail
   go_loopw [7,51] (fun v i wr=>∃ (k:Nat) (v0:Value),k≤n∧i= .int .i64 k∧v0=v∧Hid (∀ i,i<k→kAB (kAD b (s.dims.getD i default))=true)∧Hid (Own RLin 40 (fun q=>B≤q) wr B v (D++(s.dims.take k).map (kAD b)))∧Below B w3 wr) (fun _ i _=>n - (intOf i).toNat)
   case atStart=>exact ⟨0,_,Nat.zero_le _,rfl,rfl,hJ (fun i hi=>absurd hi (by omega)),hJ (by rw [List.take_zero,List.map_nil,List.append_nil];exact HO0.out),zB _ _⟩
   case round =>
    obtain ⟨k,v0,hk,rfl,rfl,HT,HO,hB⟩:=hrel;by_cases hlt:k<n
    · obtain ⟨b1,off,rfl,hbW,_⟩:=HDs.out.form k hlt
      have HBw:=hJ (HW3.out.trans (hB.mono hBw));obtain ⟨t,hr,⟨at_,ct,rfl,hts⟩,c0,c1⟩:=(HDs.out.below HBw.out).lin k hlt;have HK:Hid (k<s.dims.length):=hJ (by rw [HND.out];exact hlt);have HNext:Hid (D++(s.dims.take (k+1)).map (kAD b)=(D++(s.dims.take k).map (kAD b))++[kAD b (s.dims.getD k default)]):=hJ (by rw [kAU HK.out,List.map_append,List.append_assoc];rfl);have hkl:(D++(s.dims.take k).map (kAD b)).length=nd+k:=by rw [zP,HDl.out,List.length_map,zN,HND.out];omega
      have HBk:=hJ (HBad.out k hlt);have HUp:=hJ (fun q=>upto HT.out (p:=fun j=>kAB (kAD b (s.dims.getD j default))=true) q);have HXv:=hJ (HD.out.2 _ (kAM HK.out));have HC:=hJ (fun (W':World) (hW':Below wr.heap.size wr W')=>kD0 (RLin.below hr hW') HXv.out b _ nb cb (HBS.out.below (HBw.out.trans (hW'.mono HBw.out.size))) HG.out (EE.out.below (HBw.out.trans (hW'.mono HBw.out.size))));clear hr hts;generalize s.dims.getD k default=x at *;generalize D++(s.dims.take k).map (kAD b)=lk at *;have hA:Below wr.heap.size wr (wr.alloc (.cells #[.int .i64 x.const,.slice at_ x.terms.length ct] 40)):=(zB _ _).alloc (zR _) _;have HCx:=hJ (HC.out _ hA);have hX43w:=HX43.out.below hB (by omega);by_cases hvx:kAB (kAD b x)=true
      · obtain ⟨e1,e2⟩:=kE1 hvx
        rw [e1,e2] at HCx;have HUp:=hJ (HUp.out hvx);clear e1 e2 hvx
        go_wp2_with fail
        refine HCx.out.mono ?_;rintro e w5 ⟨⟨_,rfl,hr5⟩,hb5⟩;obtain ⟨_,rfl,a5,c5,rfl,hs5⟩:=hr5;have HB5:Hid (Below wr.heap.size wr w5):=hJ (hA.trans (hb5.mono (by simp)));have hsz5:B≤w5.heap.size:=by have h1:=HB5.out.size;have h2:=hB.size;omega
        have HRY:Hid (RLin.rd (fun q=>B≤q∧v0.ownBlock≠some q) w5 [.int .i64 (kAD b x).const,.slice a5 (kAD b x).terms.length c5] (kAD b x)):=hJ ⟨_,rfl,a5,c5,rfl,hs5.mono (fun q hq _=>by
         have hq:wr.heap.size+1≤q:=by simpa using hq
         refine ⟨by have:=hB.size;omega,fun e=>?_⟩;have:=(HO.out.block e).2;omega)⟩
        go_wp2_with (at_builtin;refine kA1 kA2 rfl _ _ rfl B _ _ rfl (((HO.out.below HB5.out).alloc _).alloc _) _ (kAD b x) [.int .i64 (kAD b x).const,.slice a5 (kAD b x).terms.length c5] rfl (RLin.below HRY.out (((zB _ _).alloc (zR _) _).alloc (by simp) _)) (kA3 40 (by (simp only [kAJ,kAF,Array.getElem?_push,Array.size_push];simp))) (by omega) (by unfold maxLen;omega) (by simp;omega) ?_;intro v9 w9 hown9 hb9 hk9)
        go_roundw
        case rel=>exact ⟨k+1,_,by omega,by go_num,rfl,HUp,hJ (by rw [HNext.out];exact hown9),(hB.trans (HB5.out.mono (by have:=hB.size;omega))).trans ((((zB _ _).alloc hsz5 _).alloc (by simp;omega) _).trans hb9)⟩
        case measure=>simp [intOf];omega
      · have hvx:kAB (kAD b x)=false:=by simpa using hvx
        obtain ⟨e1,e2⟩:=lim_bad hvx;rw [e1,e2] at HCx;obtain ⟨z1,z2⟩:=HBk.out hvx;have HZ1:=hJ z1;have HZ2:=hJ z2;clear e1 e2 hvx z1 z2
        go_wp2_with fail
        refine HCx.out.mono ?_;rintro e w5 ⟨⟨_,rfl,hr5⟩,hb5⟩;obtain ⟨_,rfl,a5,c5,rfl,hs5⟩:=hr5;have HB5:Hid (Below wr.heap.size wr w5):=hJ (hA.trans (hb5.mono (by simp)));have HX45:=hJ (hX43w.below HB5.out hX43w.lt);have hx45:=HX45.out.lt;have u0:=HX45.out.cell 0 _ rfl;have u1:=HX45.out.cell 1 _ rfl;have u2:=HX45.out.fz 0;have u3:=HX45.out.fz 1;have HX60:=hJ ((HX45.out.set 0 (.string ⟨#[]⟩)).set 1 (.slice none 0 0));have s0:=HX60.out.cell 0 _ rfl;have s1:=HX60.out.cell 1 _ rfl
        go_wp2_with fail
        refine bodyPost_ret (v:=.tuple #[.agg #[.string ⟨#[]⟩,.slice none 0 0],.int .i64 3]) (by simp [results,results91,go_sem,s0,s1,hx45]) rfl ?_;refine ⟨⟨[.string ⟨#[]⟩,.slice none 0 0],by rw [HZ2.out],by rw [HZ1.out];exact ⟨_,rfl,none,0,rfl,Sl.empty _ _ _⟩⟩,?_⟩;exact (((HBw.out.trans (HB5.out.mono HBw.out.size)).setCell (by show _≤w.heap.size+1;omega) _).setCell (by show _≤w.heap.size+1;omega) _).alloc (by simp;omega) _
    · obtain rfl:k=n:=by omega
      have HAll:Hid (D++(s.dims.take k).map (kAD b)=D++s.dims.map (kAD b)):=hJ (by rw [zT (by rw [HND.out];exact zR _)]);rw [HAll.out] at HO;obtain ⟨av,cv,rfl,hsv⟩:=HO.out.sl;have hkl:(D++s.dims.map (kAD b)).length=nd+k:=by rw [zP,HDl.out,List.length_map,HND.out]
      rw [hkl] at hsv ⊢;have HBw:=hJ (HW3.out.trans (hB.mono hBw));have hX43w:=hJ (HX43.out.below hB (by omega));have hx43:=hX43w.out.lt;by_cases h6:nd+k≤6
      · obtain ⟨z1,z2⟩:=HGood.out _ _ HR.out HT.out (by rw [HDl.out];exact h6)
        have HZ1:=hJ z1;have HZ2:=hJ z2
        have HCM:=hJ (shape_made s.row (D++s.dims.map (kAD b)) av (nd+k) cv wr hsv h6 (fun x hx=>by
         rcases List.mem_append.1 hx with hx | hx
         · exact HDt.out x hx
         · obtain ⟨y,hy,rfl⟩:=List.mem_map.1 hx
           obtain ⟨i,hi,e⟩:=List.getElem_of_mem hy;have:=HT.out i (by rw [← HND.out];exact hi);rw [zD,zG hi] at this;have h2:=kBW this;rw [← e];exact zE h2 (by decide)))
        have h6i:((nd+k:Nat):Int)≤6:=by omega
        clear hsv z1 z2 hkl
        go_wp2_with fail
        refine HCM.out.mono ?_;rintro e w5 ⟨⟨_,rfl,hr5⟩,hb5⟩;obtain ⟨_,rfl,a5,c5,rfl,hs5⟩:=hr5;have HX45:=hJ (hX43w.out.below hb5 hX43w.out.lt);have u0:=HX45.out.cell 0 _ rfl;have u1:=HX45.out.cell 1 _ rfl;have u2:=HX45.out.fz 0;have u3:=HX45.out.fz 1;have HS5:=hJ hs5;clear hs5;have hll:(D++s.dims.map (kAD b)).length=(D++s.dims.map (kAD b)).length:=rfl;generalize hLL:(D++s.dims.map (kAD b)).length=LL at *;have HLL:=hJ hLL;clear hll hLL;have HX60:=hJ ((HX45.out.set 0 (.string s.row)).set 1 (.slice a5 LL c5));have s0:=HX60.out.cell 0 _ rfl;have s1:=HX60.out.cell 1 _ rfl
        (try simp only []);repeat (first | go_values | go_skip | go_guarded | go_step | go_upon)
        refine bodyPost_ret (v:=.tuple #[.agg #[.string s.row,.slice a5 LL c5],.int .i64 0]) (by simp [results,results91,go_sem,s0,s1]) rfl ?_;refine ⟨⟨[.string s.row,.slice a5 LL c5],by rw [HZ2.out],?_⟩,?_⟩
        · rw [HZ1.out]
          refine ⟨_,rfl,a5,c5,by rw [← HLL.out],?_⟩;have h1:=HS5.out;rw [← HLL.out] at h1;refine (h1.frame fun q hq _=>?_).mono (fun q hq _=>by have:=HBw.out.size;omega);rw [kAA (by have:=HBw.out.size;have:=hX43w.out.lt;show w.heap.size+1≠q;omega),kAA (by have:=hX43w.out.lt;show w.heap.size+1≠q;omega)]
        · exact ((HBw.out.trans (hb5.mono HBw.out.size)).setCell (by show _≤w.heap.size+1;omega) _).setCell (by show _≤w.heap.size+1;omega) _
      · obtain ⟨z1,z2⟩:=HLong.out _ _ HR.out (by rw [HDl.out];exact h6)
        have HZ1:=hJ z1;have HZ2:=hJ z2;have HCM:=hJ (kEL s.row av (nd+k) cv wr h6 (by omega));clear hsv z1 z2 hkl
        go_wp2_with fail
        refine (HCM.out).mono ?_;rintro e w5 ⟨rfl,hb5⟩;have HX45:=hJ (hX43w.out.below hb5 hX43w.out.lt);have u0:=HX45.out.cell 0 _ rfl;have u1:=HX45.out.cell 1 _ rfl;have u2:=HX45.out.fz 0;have u3:=HX45.out.fz 1;have HX60:=hJ ((HX45.out.set 0 (.string ⟨#[]⟩)).set 1 (.slice none 0 0));have s0:=HX60.out.cell 0 _ rfl;have s1:=HX60.out.cell 1 _ rfl
        (try simp only []);repeat (first | go_values | go_skip | go_guarded | go_step | go_upon)
        refine bodyPost_ret (v:=.tuple #[.agg #[.string ⟨#[]⟩,.slice none 0 0],.int .i64 3]) (by simp [results,results91,go_sem,s0,s1]) rfl ?_;refine ⟨⟨[.string ⟨#[]⟩,.slice none 0 0],by rw [HZ2.out],by rw [HZ1.out];exact ⟨_,rfl,none,0,rfl,Sl.empty _ _ _⟩⟩,?_⟩;exact ((HBw.out.trans (hb5.mono HBw.out.size)).setCell (by show _≤w.heap.size+1;omega) _).setCell (by show _≤w.heap.size+1;omega) _
 · have he2:s.row.toList.isEmpty=false:=by simpa using he
   by_cases hq:0≤kAW b 2 s.row
   · obtain ⟨kk,hkk,hkl⟩:=HFnd.out hq
     have hkn:kk<nb:=by rw [← HBS.out.len];exact hkl
     have hgood:=HRg.out kk hkk hkl;have HR0:Hid (kBP b s=(b.getD kk default).row):=hJ (by rw [HRow.out,if_neg he,if_pos hq,hkk];rfl);rw [hkk];clear hq he HFnd HRow hkk;obtain ⟨bb,boff,rfl,hbb,hSb⟩:=HBS.out.form kk hkn;obtain ⟨td,dd,hr,⟨⟨at1,ct1,rfl,_⟩,⟨ad1,cd1,rfl,hrd⟩⟩,e0,e1,e2,e3,e4,e5,e6⟩:=(HBS.out.below HW3.out).bnd kk hkn;obtain ⟨hg6,hgd⟩:=kB1 hgood;have HR:Hid (kBP b s=⟨(b.getD kk default).row.row,(b.getD kk default).row.dims⟩):=hJ HR0.out;have HDt:Hid (∀ x ∈ (b.getD kk default).row.dims,x.terms.length≤1000):=hJ (fun x hx=>zE (kBW (hgd x hx)) (by decide));clear hr e0 e1 e2 e3 e6 hgood hgd HR0;generalize (b.getD kk default).row.row=rr at *;generalize (b.getD kk default).row.dims=D at *;have hndl:D.length=D.length:=rfl;generalize hnd:D.length=nd at *;have HDl:=hJ hnd;have HHd:=hJ hrd;clear hnd hndl hrd;have hnd6:nd≤6:=hg6;have HCl:=hJ (fun (W:World) (hW:Below w3.heap.size w3 W)=>(shape_clones D ad1 nd cd1 W (HHd.out.below hW) (by omega) HDt.out).mono fun e w' ⟨⟨v,he,ho⟩,hb⟩=>(⟨⟨v,he,(ho.lower hW.size).mono (fun q hq _=>zE hW.size hq)⟩,hW.trans (hb.mono hW.size)⟩:(∃ v,e=Ending.returned v∧Own RLin 40 (fun q=>w3.heap.size≤q) w' w3.heap.size v D)∧Below w3.heap.size w3 w'));have hkn2:(kk:Int)<(nb:Int):=by omega
     go_wp2_with fail
     go_region_held3 (fun W=>W.cell? ⟨bb,boff+kk * 7+4,none⟩=some (.string rr)∧W.cell? ⟨bb,boff+kk * 7+5,none⟩=some (.slice ad1 nd cd1)) (first | (with_reducible exact ⟨p0,p1⟩) | (with_reducible exact ⟨e4,e5⟩) | go_keep) (first
      | (go_at_call 147
         refine (HCl.out _ ?hw).mono ?_
         case hw=>(repeat (first | assumption | exact zB _ _ | exact Hid.out (by assumption) | refine kFX ?_ _ | refine kHS ?_))
         rintro e w4 ⟨⟨v0,rfl,hown⟩,hb4⟩;have p0:=kAE e4 _ hb4;have p1:=kAE e5 _ hb4))
     all_goals
      have HW4:=hJ (HW3.out.trans (hb4.mono HW3.out.size));have HX44:=hJ (HX43.out.below hb4 hl43);have g1b:=kAE g1 _ hb4;have HO0:=hJ hown;obtain ⟨B,hBe⟩:∃ B,B=w3.heap.size:=⟨_,rfl⟩
      have hBw:w.heap.size≤B:=by rw [hBe];exact HW3.out.size
      have hBl:w.heap.size+1<B:=by rw [hBe];exact hl43
      have hBs:B≤w4.heap.size:=by rw [hBe];exact hb4.size
      rw [← hBe] at HO0;clear hb4 hown HW3 HX43 hl43 g0 g1 e4 e5 p0 p1 hBe HCl HHd;have HW3:=HW4;have HX43:=HX44;have hl43:=HX44.out.lt;have g1:=g1b;clear HW4 HX44 g1b
      go_wp2_with fail
      go_loopw [7,51] (fun v i wr=>∃ (k:Nat) (v0:Value),k≤n∧i= .int .i64 k∧v0=v∧Hid (∀ i,i<k→kAB (kAD b (s.dims.getD i default))=true)∧Hid (Own RLin 40 (fun q=>B≤q) wr B v (D++(s.dims.take k).map (kAD b)))∧Below B w4 wr) (fun _ i _=>n - (intOf i).toNat)
      case atStart=>exact ⟨0,_,Nat.zero_le _,rfl,rfl,hJ (fun i hi=>absurd hi (by omega)),hJ (by rw [List.take_zero,List.map_nil,List.append_nil];exact HO0.out),zB _ _⟩
      case round =>
       obtain ⟨k,v0,hk,rfl,rfl,HT,HO,hB⟩:=hrel;by_cases hlt:k<n
       · obtain ⟨b1,off,rfl,hbW,_⟩:=HDs.out.form k hlt
         have HBw:=hJ (HW3.out.trans (hB.mono hBw));obtain ⟨t,hr,⟨at_,ct,rfl,hts⟩,c0,c1⟩:=(HDs.out.below HBw.out).lin k hlt;have HK:Hid (k<s.dims.length):=hJ (by rw [HND.out];exact hlt);have HNext:Hid (D++(s.dims.take (k+1)).map (kAD b)=(D++(s.dims.take k).map (kAD b))++[kAD b (s.dims.getD k default)]):=hJ (by rw [kAU HK.out,List.map_append,List.append_assoc];rfl);have hkl:(D++(s.dims.take k).map (kAD b)).length=nd+k:=by rw [zP,HDl.out,List.length_map,zN,HND.out];omega
         have HBk:=hJ (HBad.out k hlt);have HUp:=hJ (fun q=>upto HT.out (p:=fun j=>kAB (kAD b (s.dims.getD j default))=true) q);have HXv:=hJ (HD.out.2 _ (kAM HK.out));have HC:=hJ (fun (W':World) (hW':Below wr.heap.size wr W')=>kD0 (RLin.below hr hW') HXv.out b _ nb cb (HBS.out.below (HBw.out.trans (hW'.mono HBw.out.size))) HG.out (EE.out.below (HBw.out.trans (hW'.mono HBw.out.size))));clear hr hts;generalize s.dims.getD k default=x at *;generalize D++(s.dims.take k).map (kAD b)=lk at *;have hA:Below wr.heap.size wr (wr.alloc (.cells #[.int .i64 x.const,.slice at_ x.terms.length ct] 40)):=(zB _ _).alloc (zR _) _;have HCx:=hJ (HC.out _ hA);have hX43w:=HX43.out.below hB (by omega);by_cases hvx:kAB (kAD b x)=true
         · obtain ⟨e1,e2⟩:=kE1 hvx
           rw [e1,e2] at HCx;have HUp:=hJ (HUp.out hvx);clear e1 e2 hvx
           go_wp2_with fail
           refine HCx.out.mono ?_;rintro e w5 ⟨⟨_,rfl,hr5⟩,hb5⟩;obtain ⟨_,rfl,a5,c5,rfl,hs5⟩:=hr5;have HB5:Hid (Below wr.heap.size wr w5):=hJ (hA.trans (hb5.mono (by simp)));have hsz5:B≤w5.heap.size:=by have h1:=HB5.out.size;have h2:=hB.size;omega
           have HRY:Hid (RLin.rd (fun q=>B≤q∧v0.ownBlock≠some q) w5 [.int .i64 (kAD b x).const,.slice a5 (kAD b x).terms.length c5] (kAD b x)):=hJ ⟨_,rfl,a5,c5,rfl,hs5.mono (fun q hq _=>by
            have hq:wr.heap.size+1≤q:=by simpa using hq
            refine ⟨by have:=hB.size;omega,fun e=>?_⟩;have:=(HO.out.block e).2;omega)⟩
           go_wp2_with (at_builtin;refine kA1 kA2 rfl _ _ rfl B _ _ rfl (((HO.out.below HB5.out).alloc _).alloc _) _ (kAD b x) [.int .i64 (kAD b x).const,.slice a5 (kAD b x).terms.length c5] rfl (RLin.below HRY.out (((zB _ _).alloc (zR _) _).alloc (by simp) _)) (kA3 40 (by (simp only [kAJ,kAF,Array.getElem?_push,Array.size_push];simp))) (by omega) (by unfold maxLen;omega) (by simp;omega) ?_;intro v9 w9 hown9 hb9 hk9)
           go_roundw
           case rel=>exact ⟨k+1,_,by omega,by go_num,rfl,HUp,hJ (by rw [HNext.out];exact hown9),(hB.trans (HB5.out.mono (by have:=hB.size;omega))).trans ((((zB _ _).alloc hsz5 _).alloc (by simp;omega) _).trans hb9)⟩
           case measure=>simp [intOf];omega
         · have hvx:kAB (kAD b x)=false:=by simpa using hvx
           obtain ⟨e1,e2⟩:=lim_bad hvx;rw [e1,e2] at HCx;obtain ⟨z1,z2⟩:=HBk.out hvx;have HZ1:=hJ z1;have HZ2:=hJ z2;clear e1 e2 hvx z1 z2
           go_wp2_with fail
           refine HCx.out.mono ?_;rintro e w5 ⟨⟨_,rfl,hr5⟩,hb5⟩;obtain ⟨_,rfl,a5,c5,rfl,hs5⟩:=hr5;have HB5:Hid (Below wr.heap.size wr w5):=hJ (hA.trans (hb5.mono (by simp)));have HX45:=hJ (hX43w.below HB5.out hX43w.lt);have hx45:=HX45.out.lt;have u0:=HX45.out.cell 0 _ rfl;have u1:=HX45.out.cell 1 _ rfl;have u2:=HX45.out.fz 0;have u3:=HX45.out.fz 1;have HX60:=hJ ((HX45.out.set 0 (.string ⟨#[]⟩)).set 1 (.slice none 0 0));have s0:=HX60.out.cell 0 _ rfl;have s1:=HX60.out.cell 1 _ rfl
           go_wp2_with fail
           refine bodyPost_ret (v:=.tuple #[.agg #[.string ⟨#[]⟩,.slice none 0 0],.int .i64 3]) (by simp [results,results91,go_sem,s0,s1,hx45]) rfl ?_;refine ⟨⟨[.string ⟨#[]⟩,.slice none 0 0],by rw [HZ2.out],by rw [HZ1.out];exact ⟨_,rfl,none,0,rfl,Sl.empty _ _ _⟩⟩,?_⟩;exact (((HBw.out.trans (HB5.out.mono HBw.out.size)).setCell (by show _≤w.heap.size+1;omega) _).setCell (by show _≤w.heap.size+1;omega) _).alloc (by simp;omega) _
       · obtain rfl:k=n:=by omega
         have HAll:Hid (D++(s.dims.take k).map (kAD b)=D++s.dims.map (kAD b)):=hJ (by rw [zT (by rw [HND.out];exact zR _)]);rw [HAll.out] at HO;obtain ⟨av,cv,rfl,hsv⟩:=HO.out.sl;have hkl:(D++s.dims.map (kAD b)).length=nd+k:=by rw [zP,HDl.out,List.length_map,HND.out]
         rw [hkl] at hsv ⊢;have HBw:=hJ (HW3.out.trans (hB.mono hBw));have hX43w:=hJ (HX43.out.below hB (by omega));have hx43:=hX43w.out.lt;by_cases h6:nd+k≤6
         · obtain ⟨z1,z2⟩:=HGood.out _ _ HR.out HT.out (by rw [HDl.out];exact h6)
           have HZ1:=hJ z1;have HZ2:=hJ z2
           have HCM:=hJ (shape_made rr (D++s.dims.map (kAD b)) av (nd+k) cv wr hsv h6 (fun x hx=>by
            rcases List.mem_append.1 hx with hx | hx
            · exact HDt.out x hx
            · obtain ⟨y,hy,rfl⟩:=List.mem_map.1 hx
              obtain ⟨i,hi,e⟩:=List.getElem_of_mem hy;have:=HT.out i (by rw [← HND.out];exact hi);rw [zD,zG hi] at this;have h2:=kBW this;rw [← e];exact zE h2 (by decide)))
           have h6i:((nd+k:Nat):Int)≤6:=by omega
           clear hsv z1 z2 hkl
           go_wp2_with fail
           refine HCM.out.mono ?_;rintro e w5 ⟨⟨_,rfl,hr5⟩,hb5⟩;obtain ⟨_,rfl,a5,c5,rfl,hs5⟩:=hr5;have HX45:=hJ (hX43w.out.below hb5 hX43w.out.lt);have u0:=HX45.out.cell 0 _ rfl;have u1:=HX45.out.cell 1 _ rfl;have u2:=HX45.out.fz 0;have u3:=HX45.out.fz 1;have HS5:=hJ hs5;clear hs5;have hll:(D++s.dims.map (kAD b)).length=(D++s.dims.map (kAD b)).length:=rfl;generalize hLL:(D++s.dims.map (kAD b)).length=LL at *;have HLL:=hJ hLL;clear hll hLL;have HX60:=hJ ((HX45.out.set 0 (.string rr)).set 1 (.slice a5 LL c5));have s0:=HX60.out.cell 0 _ rfl;have s1:=HX60.out.cell 1 _ rfl
           (try simp only []);repeat (first | go_values | go_skip | go_guarded | go_step | go_upon)
           refine bodyPost_ret (v:=.tuple #[.agg #[.string rr,.slice a5 LL c5],.int .i64 0]) (by simp [results,results91,go_sem,s0,s1]) rfl ?_;refine ⟨⟨[.string rr,.slice a5 LL c5],by rw [HZ2.out],?_⟩,?_⟩
           · rw [HZ1.out]
             refine ⟨_,rfl,a5,c5,by rw [← HLL.out],?_⟩;have h1:=HS5.out;rw [← HLL.out] at h1;refine (h1.frame fun q hq _=>?_).mono (fun q hq _=>by have:=HBw.out.size;omega);rw [kAA (by have:=HBw.out.size;have:=hX43w.out.lt;show w.heap.size+1≠q;omega),kAA (by have:=hX43w.out.lt;show w.heap.size+1≠q;omega)]
           · exact ((HBw.out.trans (hb5.mono HBw.out.size)).setCell (by show _≤w.heap.size+1;omega) _).setCell (by show _≤w.heap.size+1;omega) _
         · obtain ⟨z1,z2⟩:=HLong.out _ _ HR.out (by rw [HDl.out];exact h6)
           have HZ1:=hJ z1;have HZ2:=hJ z2;have HCM:=hJ (kEL rr av (nd+k) cv wr h6 (by omega));clear hsv z1 z2 hkl
           go_wp2_with fail
           refine (HCM.out).mono ?_;rintro e w5 ⟨rfl,hb5⟩;have HX45:=hJ (hX43w.out.below hb5 hX43w.out.lt);have u0:=HX45.out.cell 0 _ rfl;have u1:=HX45.out.cell 1 _ rfl;have u2:=HX45.out.fz 0;have u3:=HX45.out.fz 1;have HX60:=hJ ((HX45.out.set 0 (.string ⟨#[]⟩)).set 1 (.slice none 0 0));have s0:=HX60.out.cell 0 _ rfl;have s1:=HX60.out.cell 1 _ rfl
           (try simp only []);repeat (first | go_values | go_skip | go_guarded | go_step | go_upon)
           refine bodyPost_ret (v:=.tuple #[.agg #[.string ⟨#[]⟩,.slice none 0 0],.int .i64 3]) (by simp [results,results91,go_sem,s0,s1]) rfl ?_;refine ⟨⟨[.string ⟨#[]⟩,.slice none 0 0],by rw [HZ2.out],by rw [HZ1.out];exact ⟨_,rfl,none,0,rfl,Sl.empty _ _ _⟩⟩,?_⟩;exact ((HBw.out.trans (hb5.mono HBw.out.size)).setCell (by show _≤w.heap.size+1;omega) _).setCell (by show _≤w.heap.size+1;omega) _
   · obtain ⟨D,hD⟩:∃ D:List Lin,D=[]:=⟨_,rfl⟩
     have HR:Hid (kBP b s=⟨s.row,D⟩):=hJ (by rw [hD,HRow.out,if_neg he,if_neg hq]);have HDl:Hid (D.length=0):=hJ (by rw [hD];rfl);have HDt:Hid (∀ x ∈ D,x.terms.length≤1000):=hJ (by rw [hD];exact fun x hx=>by cases hx);have HO0:Hid (Own RLin 40 (fun q=>w3.heap.size≤q) w3 w3.heap.size (.slice none 0 0) D):=hJ (by rw [hD];exact Own.nil _ _ _ _ _);obtain ⟨nd,hnd⟩:∃ nd:Nat,nd=0:=⟨_,rfl⟩
     rw [← hnd] at HDl;have hnd6:nd≤6:=by omega
     obtain ⟨B,hBe⟩:∃ B,B=w3.heap.size:=⟨_,rfl⟩
     have hBw:w.heap.size≤B:=by rw [hBe];exact HW3.out.size
     have hBl:w.heap.size+1<B:=by rw [hBe];exact hl43
     have hBs:B≤w3.heap.size:=by rw [hBe];exact zR _
     rw [← hBe] at HO0;clear hD hnd hBe;have hq2:kAW b 2 s.row<0:=by omega
     clear hq he HFnd HRow;generalize kAW b 2 s.row=q at *
     go_wp2_with fail
     go_loopw [7,51] (fun v i wr=>∃ (k:Nat) (v0:Value),k≤n∧i= .int .i64 k∧v0=v∧Hid (∀ i,i<k→kAB (kAD b (s.dims.getD i default))=true)∧Hid (Own RLin 40 (fun q=>B≤q) wr B v (D++(s.dims.take k).map (kAD b)))∧Below B w3 wr) (fun _ i _=>n - (intOf i).toNat)
     case atStart=>exact ⟨0,_,Nat.zero_le _,rfl,rfl,hJ (fun i hi=>absurd hi (by omega)),hJ (by rw [List.take_zero,List.map_nil,List.append_nil];exact HO0.out),zB _ _⟩
     case round =>
      obtain ⟨k,v0,hk,rfl,rfl,HT,HO,hB⟩:=hrel;by_cases hlt:k<n
      · obtain ⟨b1,off,rfl,hbW,_⟩:=HDs.out.form k hlt
        have HBw:=hJ (HW3.out.trans (hB.mono hBw));obtain ⟨t,hr,⟨at_,ct,rfl,hts⟩,c0,c1⟩:=(HDs.out.below HBw.out).lin k hlt;have HK:Hid (k<s.dims.length):=hJ (by rw [HND.out];exact hlt);have HNext:Hid (D++(s.dims.take (k+1)).map (kAD b)=(D++(s.dims.take k).map (kAD b))++[kAD b (s.dims.getD k default)]):=hJ (by rw [kAU HK.out,List.map_append,List.append_assoc];rfl);have hkl:(D++(s.dims.take k).map (kAD b)).length=nd+k:=by rw [zP,HDl.out,List.length_map,zN,HND.out];omega
        have HBk:=hJ (HBad.out k hlt);have HUp:=hJ (fun q=>upto HT.out (p:=fun j=>kAB (kAD b (s.dims.getD j default))=true) q);have HXv:=hJ (HD.out.2 _ (kAM HK.out));have HC:=hJ (fun (W':World) (hW':Below wr.heap.size wr W')=>kD0 (RLin.below hr hW') HXv.out b _ nb cb (HBS.out.below (HBw.out.trans (hW'.mono HBw.out.size))) HG.out (EE.out.below (HBw.out.trans (hW'.mono HBw.out.size))));clear hr hts;generalize s.dims.getD k default=x at *;generalize D++(s.dims.take k).map (kAD b)=lk at *;have hA:Below wr.heap.size wr (wr.alloc (.cells #[.int .i64 x.const,.slice at_ x.terms.length ct] 40)):=(zB _ _).alloc (zR _) _;have HCx:=hJ (HC.out _ hA);have hX43w:=HX43.out.below hB (by omega);by_cases hvx:kAB (kAD b x)=true
        · obtain ⟨e1,e2⟩:=kE1 hvx
          rw [e1,e2] at HCx;have HUp:=hJ (HUp.out hvx);clear e1 e2 hvx
          go_wp2_with fail
          refine HCx.out.mono ?_;rintro e w5 ⟨⟨_,rfl,hr5⟩,hb5⟩;obtain ⟨_,rfl,a5,c5,rfl,hs5⟩:=hr5;have HB5:Hid (Below wr.heap.size wr w5):=hJ (hA.trans (hb5.mono (by simp)));have hsz5:B≤w5.heap.size:=by have h1:=HB5.out.size;have h2:=hB.size;omega
          have HRY:Hid (RLin.rd (fun q=>B≤q∧v0.ownBlock≠some q) w5 [.int .i64 (kAD b x).const,.slice a5 (kAD b x).terms.length c5] (kAD b x)):=hJ ⟨_,rfl,a5,c5,rfl,hs5.mono (fun q hq _=>by
           have hq:wr.heap.size+1≤q:=by simpa using hq
           refine ⟨by have:=hB.size;omega,fun e=>?_⟩;have:=(HO.out.block e).2;omega)⟩
          go_wp2_with (at_builtin;refine kA1 kA2 rfl _ _ rfl B _ _ rfl (((HO.out.below HB5.out).alloc _).alloc _) _ (kAD b x) [.int .i64 (kAD b x).const,.slice a5 (kAD b x).terms.length c5] rfl (RLin.below HRY.out (((zB _ _).alloc (zR _) _).alloc (by simp) _)) (kA3 40 (by (simp only [kAJ,kAF,Array.getElem?_push,Array.size_push];simp))) (by omega) (by unfold maxLen;omega) (by simp;omega) ?_;intro v9 w9 hown9 hb9 hk9)
          go_roundw
          case rel=>exact ⟨k+1,_,by omega,by go_num,rfl,HUp,hJ (by rw [HNext.out];exact hown9),(hB.trans (HB5.out.mono (by have:=hB.size;omega))).trans ((((zB _ _).alloc hsz5 _).alloc (by simp;omega) _).trans hb9)⟩
          case measure=>simp [intOf];omega
        · have hvx:kAB (kAD b x)=false:=by simpa using hvx
          obtain ⟨e1,e2⟩:=lim_bad hvx;rw [e1,e2] at HCx;obtain ⟨z1,z2⟩:=HBk.out hvx;have HZ1:=hJ z1;have HZ2:=hJ z2;clear e1 e2 hvx z1 z2
          go_wp2_with fail
          refine HCx.out.mono ?_;rintro e w5 ⟨⟨_,rfl,hr5⟩,hb5⟩;obtain ⟨_,rfl,a5,c5,rfl,hs5⟩:=hr5;have HB5:Hid (Below wr.heap.size wr w5):=hJ (hA.trans (hb5.mono (by simp)));have HX45:=hJ (hX43w.below HB5.out hX43w.lt);have hx45:=HX45.out.lt;have u0:=HX45.out.cell 0 _ rfl;have u1:=HX45.out.cell 1 _ rfl;have u2:=HX45.out.fz 0;have u3:=HX45.out.fz 1;have HX60:=hJ ((HX45.out.set 0 (.string ⟨#[]⟩)).set 1 (.slice none 0 0));have s0:=HX60.out.cell 0 _ rfl;have s1:=HX60.out.cell 1 _ rfl
          go_wp2_with fail
          refine bodyPost_ret (v:=.tuple #[.agg #[.string ⟨#[]⟩,.slice none 0 0],.int .i64 3]) (by simp [results,results91,go_sem,s0,s1,hx45]) rfl ?_;refine ⟨⟨[.string ⟨#[]⟩,.slice none 0 0],by rw [HZ2.out],by rw [HZ1.out];exact ⟨_,rfl,none,0,rfl,Sl.empty _ _ _⟩⟩,?_⟩;exact (((HBw.out.trans (HB5.out.mono HBw.out.size)).setCell (by show _≤w.heap.size+1;omega) _).setCell (by show _≤w.heap.size+1;omega) _).alloc (by simp;omega) _
      · obtain rfl:k=n:=by omega
        have HAll:Hid (D++(s.dims.take k).map (kAD b)=D++s.dims.map (kAD b)):=hJ (by rw [zT (by rw [HND.out];exact zR _)]);rw [HAll.out] at HO;obtain ⟨av,cv,rfl,hsv⟩:=HO.out.sl;have hkl:(D++s.dims.map (kAD b)).length=nd+k:=by rw [zP,HDl.out,List.length_map,HND.out]
        rw [hkl] at hsv ⊢;have HBw:=hJ (HW3.out.trans (hB.mono hBw));have hX43w:=hJ (HX43.out.below hB (by omega));have hx43:=hX43w.out.lt;by_cases h6:nd+k≤6
        · obtain ⟨z1,z2⟩:=HGood.out _ _ HR.out HT.out (by rw [HDl.out];exact h6)
          have HZ1:=hJ z1;have HZ2:=hJ z2
          have HCM:=hJ (shape_made s.row (D++s.dims.map (kAD b)) av (nd+k) cv wr hsv h6 (fun x hx=>by
           rcases List.mem_append.1 hx with hx | hx
           · exact HDt.out x hx
           · obtain ⟨y,hy,rfl⟩:=List.mem_map.1 hx
             obtain ⟨i,hi,e⟩:=List.getElem_of_mem hy;have:=HT.out i (by rw [← HND.out];exact hi);rw [zD,zG hi] at this;have h2:=kBW this;rw [← e];exact zE h2 (by decide)))
          have h6i:((nd+k:Nat):Int)≤6:=by omega
          clear hsv z1 z2 hkl
          go_wp2_with fail
          refine HCM.out.mono ?_;rintro e w5 ⟨⟨_,rfl,hr5⟩,hb5⟩;obtain ⟨_,rfl,a5,c5,rfl,hs5⟩:=hr5;have HX45:=hJ (hX43w.out.below hb5 hX43w.out.lt);have u0:=HX45.out.cell 0 _ rfl;have u1:=HX45.out.cell 1 _ rfl;have u2:=HX45.out.fz 0;have u3:=HX45.out.fz 1;have HS5:=hJ hs5;clear hs5;have hll:(D++s.dims.map (kAD b)).length=(D++s.dims.map (kAD b)).length:=rfl;generalize hLL:(D++s.dims.map (kAD b)).length=LL at *;have HLL:=hJ hLL;clear hll hLL;have HX60:=hJ ((HX45.out.set 0 (.string s.row)).set 1 (.slice a5 LL c5));have s0:=HX60.out.cell 0 _ rfl;have s1:=HX60.out.cell 1 _ rfl
          (try simp only []);repeat (first | go_values | go_skip | go_guarded | go_step | go_upon)
          refine bodyPost_ret (v:=.tuple #[.agg #[.string s.row,.slice a5 LL c5],.int .i64 0]) (by simp [results,results91,go_sem,s0,s1]) rfl ?_;refine ⟨⟨[.string s.row,.slice a5 LL c5],by rw [HZ2.out],?_⟩,?_⟩
          · rw [HZ1.out]
            refine ⟨_,rfl,a5,c5,by rw [← HLL.out],?_⟩;have h1:=HS5.out;rw [← HLL.out] at h1;refine (h1.frame fun q hq _=>?_).mono (fun q hq _=>by have:=HBw.out.size;omega);rw [kAA (by have:=HBw.out.size;have:=hX43w.out.lt;show w.heap.size+1≠q;omega),kAA (by have:=hX43w.out.lt;show w.heap.size+1≠q;omega)]
          · exact ((HBw.out.trans (hb5.mono HBw.out.size)).setCell (by show _≤w.heap.size+1;omega) _).setCell (by show _≤w.heap.size+1;omega) _
        · obtain ⟨z1,z2⟩:=HLong.out _ _ HR.out (by rw [HDl.out];exact h6)
          have HZ1:=hJ z1;have HZ2:=hJ z2;have HCM:=hJ (kEL s.row av (nd+k) cv wr h6 (by omega));clear hsv z1 z2 hkl
          go_wp2_with fail
          refine (HCM.out).mono ?_;rintro e w5 ⟨rfl,hb5⟩;have HX45:=hJ (hX43w.out.below hb5 hX43w.out.lt);have u0:=HX45.out.cell 0 _ rfl;have u1:=HX45.out.cell 1 _ rfl;have u2:=HX45.out.fz 0;have u3:=HX45.out.fz 1;have HX60:=hJ ((HX45.out.set 0 (.string ⟨#[]⟩)).set 1 (.slice none 0 0));have s0:=HX60.out.cell 0 _ rfl;have s1:=HX60.out.cell 1 _ rfl
          (try simp only []);repeat (first | go_values | go_skip | go_guarded | go_step | go_upon)
          refine bodyPost_ret (v:=.tuple #[.agg #[.string ⟨#[]⟩,.slice none 0 0],.int .i64 3]) (by simp [results,results91,go_sem,s0,s1]) rfl ?_;refine ⟨⟨[.string ⟨#[]⟩,.slice none 0 0],by rw [HZ2.out],by rw [HZ1.out];exact ⟨_,rfl,none,0,rfl,Sl.empty _ _ _⟩⟩,?_⟩;exact ((HBw.out.trans (hb5.mono HBw.out.size)).setCell (by show _≤w.heap.size+1;omega) _).setCell (by show _≤w.heap.size+1;omega) _
theorem ref04_Subst {S T:Blk} {x:Lin} {cs:List Value} {w:World} (h:RLin.rd S w cs x) (hv:kAB x=true) (b:List Bnd) (a:Option Addr) (nb cb:Nat) (hbs:Sl RBnd T w a nb cb b) (hg:GoodB b) :
 Calls Tryz.prog 83 #[.agg cs.toArray,.slice a nb cb] w fun e w'=>(∃ ds,e= .returned (.tuple #[.agg ds.toArray,.int .i64 (limE (kAD b x))])∧RLin.rd (fun k=>w.heap.size≤k) w' ds (limL (kAD b x)))∧Below w.heap.size w w':=by
 have HCV:Hid (∀ W,Below w.heap.size w W→Calls Tryz.prog 80 #[.agg cs.toArray] W fun e w'=>e= .returned (.bool true)∧Below W.heap.size W w') :=
  hJ (fun W hW=>hv ▸ kCH (RLin.below h hW) (kE0 hv))
 have HZ:=hJ (subRaw_sz hg hv);obtain ⟨_,rfl,ax,cx,rfl,hsx⟩:=h;have hvp:=kAV hv;have HP:=hJ hvp;have HV:=hJ hv;have HG:=hJ hg;have HSX:=hJ hsx;have HBS:=hJ hbs;have hmx:=hsx.small;have hlen:=hvp.2.2.2.2.2;clear hsx hbs hvp hv hg;generalize hnx:x.terms.length=n at *;have HNX:=hJ hnx;clear hnx;obtain ⟨B0,ya,yb,hW0⟩:=box2 w 40 [.int .i64 x.const,.slice ax n cx] 40 [.int .i64 0,.slice none 0 0];have xa0:=box0 ya 0 _ rfl;have xa1:=box0 ya 1 _ rfl;have xb0:=box0 yb 0 _ rfl;have xb1:=box0 yb 1 _ rfl;have bka:Bx _ _ _ _:=ya;have bkb:Bx _ _ _ _:=yb;clear ya yb;have HB4:=hJ bkb;clear bka bkb;go_enter func83,ntmps83
 go_wp2_with fail
 refine (HCV.out _ B0.out).mono ?_;rintro e w1 ⟨rfl,hb⟩;have y0:=kAE xa0 _ hb;have y1:=kAE xa1 _ hb;have HW:=hJ (B0.out.trans (hb.mono B0.out.size));have HX4:=hJ (HB4.out.below hb HB4.out.lt);have hl4:=HX4.out.lt;have hl2:w.heap.size<w1.heap.size:=by omega
 clear xa0 xa1 xb0 xb1 hb HB4
 go_wp2_with fail
 go_loopw [7] (fun i wr=>∃ (j:Nat) (v:Value),j≤n∧i= .int .i64 j∧Hid (Bx wr w1.heap.size 40 [.int .i64 (kD4 b x.const (x.terms.take j)).const,v])∧Hid (SlV kA7 (fun q=>w1.heap.size+1≤q) wr v (kD4 b x.const (x.terms.take j)).terms)∧Hid (Below w1.heap.size w1 wr)) (fun i _=>n - (intOf i).toNat)
 case atStart=>exact ⟨0,_,Nat.zero_le _,rfl,hJ (Bx.fresh _ _ [.int .i64 x.const,.slice none 0 0]),hJ ⟨none,0,rfl,Sl.empty _ _ _⟩,hJ ((zB _ _).alloc (zR _) _)⟩
 case round =>
  obtain ⟨j,v,hj,rfl,HX,HSV,HB⟩:=hrel;have z1:=kAE y1 _ HB.out;have hgs:=HX.out.lt;have hls:w1.heap.size<wr.heap.size:=hgs;by_cases hlt:j<n
  · obtain ⟨b0,off,rfl,hbW,_⟩:=HSX.out.form j hlt
    have HBw:=hJ (HW.out.trans (HB.out.mono HW.out.size));obtain ⟨c0,c1⟩:=(HSX.out.below HBw.out).coef j hlt;have HKl:Hid (j<x.terms.length):=hJ (by rw [HNX.out];exact hlt);have HStep:=hJ (subRun_take (b:=b) (c:=x.const) HKl.out);have HOK:=hJ (valid_take HV.out HG.out j (by rw [HNX.out];exact hj));have HN:=hJ (HP.out.2.2.2.1 _ (kAM HKl.out));have HCb:=hJ (HP.out.2.2.1 _ (kAM HKl.out));have HS1:=hJ (kHD HG.out HN.out);have HSel:Hid (sub1 b (x.terms.getD j default).v=if b.any (isB 1 (x.terms.getD j default).v) then bndL b (x.terms.getD j default).v else varL (x.terms.getD j default).v):=hJ rfl;have HC:=hJ (fun (W:World) (hW:Below wr.heap.size wr W)=>ref04_bound b a nb cb W (HBS.out.below (HBw.out.trans (hW.mono HBw.out.size))) (x.terms.getD j default).v);obtain ⟨av,cv,rfl,hsv⟩:=HSV.out;have HSv:=hJ hsv;clear hsv HSV;generalize x.terms.getD j default=t at *;generalize hacc:kD4 b x.const (x.terms.take j)=acc at *;generalize hL:acc.terms.length=L at *;have HL:=hJ hL;clear hacc hL;have q0:=HX.out.cell 0 _ rfl;have q1:=HX.out.cell 1 _ rfl
    go_wp2_with fail
    have hA1:Below wr.heap.size wr (wr.alloc (.cells #[.string t.v,.int .i64 t.c] 44)):=(zB _ _).alloc (zR _) _;refine (HC.out _ hA1).mono ?_;rintro e w2 ⟨⟨ds,rfl,hr2⟩,hb2⟩;obtain ⟨_,rfl,ab,cb2,rfl,hsb⟩:=hr2;have HX8:=hJ ((Bx.fresh wr 44 [.string t.v,.int .i64 t.c]).below hb2 (by simp));have hB2:Below wr.heap.size wr w2:=hA1.trans (hb2.mono hA1.size);have HX2:=hJ (HX.out.below hB2 hgs);have HSv2:=hJ (HSv.out.below hB2);have HSb:=hJ hsb.all;have HBB2:=hJ hB2;have h8:wr.heap.size<w2.heap.size:=by have:=hb2.size;simp at this;omega
    clear hA1 hb2 hB2 hsb c0 c1 q0 q1 HSv HX;generalize b.any (isB 1 t.v)=ok at *;cases ok with
    | true =>
      have HSel2:Hid (bndL b t.v=sub1 b t.v):=hJ (by rw [HSel.out];rfl);rw [HSel2.out] at HSb;rw [HSel2.out];have HX6:=hJ (HX2.out.alloc (.cells #[.int .i64 (sub1 b t.v).const,.slice ab (sub1 b t.v).terms.length cb2] 40));have HX8:=hJ (HX8.out.alloc (.cells #[.int .i64 (sub1 b t.v).const,.slice ab (sub1 b t.v).terms.length cb2] 40));have HX9:=hJ (Bx.fresh w2 40 [.int .i64 (sub1 b t.v).const,.slice ab (sub1 b t.v).terms.length cb2]);have HS9:=hJ (HSb.out.below ((zB _ _).alloc (zR _) (.cells #[.int .i64 (sub1 b t.v).const,.slice ab (sub1 b t.v).terms.length cb2] 40)));have HSv9:=hJ (HSv2.out.below ((zB _ _).alloc (zR _) (.cells #[.int .i64 (sub1 b t.v).const,.slice ab (sub1 b t.v).terms.length cb2] 40)));have HB9:Hid (Below w1.heap.size w1 (w2.alloc (.cells #[.int .i64 (sub1 b t.v).const,.slice ab (sub1 b t.v).terms.length cb2] 40))):=hJ ((HB.out.trans (HBB2.out.mono HB.out.size)).alloc (by omega) _)
      go_wp2_with fail
      have h9:w2.heap.size<(w2.alloc (.cells #[.int .i64 (sub1 b t.v).const,.slice ab (sub1 b t.v).terms.length cb2] 40)).heap.size:=by simp
      generalize (w2.alloc (.cells #[.int .i64 (sub1 b t.v).const,.slice ab (sub1 b t.v).terms.length cb2] 40))=X9 at *;generalize ab=a9 at *;generalize cb2=c9 at *;have g60:=HX6.out.cell 0 _ rfl;have g61:=HX6.out.cell 1 _ rfl;have g80:=HX8.out.cell 0 _ rfl;have g81:=HX8.out.cell 1 _ rfl;have g90:=HX9.out.cell 0 _ rfl;have g91:=HX9.out.cell 1 _ rfl;have HCV2:=hJ (kCH (w:=X9) (x:=sub1 b t.v) (cs:=[.int .i64 (sub1 b t.v).const,.slice a9 (sub1 b t.v).terms.length c9]) ⟨_,rfl,a9,c9,rfl,HS9.out⟩ (kE0 HS1.out));rw [HS1.out] at HCV2
      go_wp2_with fail
      refine (HCV2.out).mono ?_;rintro e w3 ⟨rfl,hb3⟩;have HX63:=hJ (HX6.out.below hb3 HX6.out.lt);have HX83:=hJ (HX8.out.below hb3 HX8.out.lt);have HX93:=hJ (HX9.out.below hb3 HX9.out.lt);have HS93:=hJ (HS9.out.below hb3);have HSv3:=hJ (HSv9.out.below hb3);have HB3:=hJ (HB9.out.trans (hb3.mono HB9.out.size));have g60:=HX63.out.cell 0 _ rfl;have g61:=HX63.out.cell 1 _ rfl;have g81:=HX83.out.cell 1 _ rfl;have g90:=HX93.out.cell 0 _ rfl;have g91:=HX93.out.cell 1 _ rfl;have hs3:wr.heap.size<w3.heap.size:=by have:=hb3.size;omega
      have HCT:=hJ (ref04_Times (w:=w3) (x:=acc) (y:=sub1 b t.v) (cs:=[.int .i64 acc.const,.slice av L cv]) (ds:=[.int .i64 (sub1 b t.v).const,.slice a9 (sub1 b t.v).terms.length c9]) ⟨_,rfl,av,cv,by rw [HL.out],by rw [HL.out];exact HSv3.out⟩ ⟨_,rfl,a9,c9,rfl,HS93.out⟩ (by omega) HOK.out HS1.out t.c HCb.out);clear hb3
      go_wp2_with fail
      refine HCT.out.mono ?_;rintro e w4 ⟨⟨ds4,rfl,hr4⟩,hb4⟩;obtain ⟨_,rfl,a4,c4,rfl,hs4⟩:=hr4;have HX64:=hJ (HX63.out.below hb4 (by omega));have k0:=HX64.out.cell 0 _ rfl;have k1:=HX64.out.cell 1 _ rfl;have k2:=HX64.out.fz 0;have k3:=HX64.out.fz 1
      have HVN:Hid (SlV kA7 (fun q=>w1.heap.size+1≤q) ((w4.setCell ⟨w1.heap.size,0,none⟩ (.int .i64 (kCJ acc (sub1 b t.v) t.c).const)).setCell ⟨w1.heap.size,1,none⟩ (.slice a4 (kCJ acc (sub1 b t.v) t.c).terms.length c4)) (.slice a4 (kCJ acc (sub1 b t.v) t.c).terms.length c4) (kCJ acc (sub1 b t.v) t.c).terms):=hJ (by
       refine ⟨a4,c4,rfl,(hs4.frame fun q hq _=>?_).mono (fun q hq _=>by omega)⟩;rw [kAA (by show w1.heap.size≠q;omega),kAA (by show w1.heap.size≠q;omega)])
      go_wp2_with fail
      go_roundw
      case rel=>exact ⟨j+1,_,by omega,by go_num,by rw [HStep.out];exact hJ ((HX64.out.set 0 _).set 1 _),by rw [HStep.out];exact HVN,hJ (((HB3.out.trans (hb4.mono HB3.out.size)).setCell (zR _) _).setCell (zR _) _)⟩
      case measure=>simp [intOf];omega
    | false =>
      have HSel2:Hid (sub1 b t.v=varL t.v):=hJ (by rw [HSel.out];rfl);generalize bndL b t.v=nb2 at *;have HA2:=hJ ((zB w2.heap.size w2).alloc (zR _) (.cells #[.int .i64 nb2.const,.slice ab nb2.terms.length cb2] 40));have HX8a:=hJ (HX8.out.alloc (.cells #[.int .i64 nb2.const,.slice ab nb2.terms.length cb2] 40));have g80:=HX8a.out.cell 0 _ rfl;have HCVar:=ref04_Var t.v (w2.alloc (.cells #[.int .i64 nb2.const,.slice ab nb2.terms.length cb2] 40));rw [← HSel2.out] at HCVar;have HCVar:=hJ HCVar
      go_wp2_with fail
      refine HCVar.out.mono ?_;rintro e w5 ⟨⟨_,rfl,hr5⟩,hb5⟩;obtain ⟨_,rfl,a9,c9,rfl,hs9⟩:=hr5;have HX90:=hJ ((Bx.fresh w2 40 [.int .i64 nb2.const,.slice ab nb2.terms.length cb2]).below hb5 (by simp));have u0:=HX90.out.cell 0 _ rfl;have u1:=HX90.out.cell 1 _ rfl;have u2:=HX90.out.fz 0;have u3:=HX90.out.fz 1;have h85:wr.heap.size<w5.heap.size:=by have:=hb5.size;simp at this;omega
      have h95:w2.heap.size<w5.heap.size:=HX90.out.lt;have HB5:Hid (Below w2.heap.size w2 w5):=hJ (HA2.out.trans (hb5.mono (by simp)));have HX9:Hid (Bx ((w5.setCell ⟨w2.heap.size,0,none⟩ (.int .i64 (sub1 b t.v).const)).setCell ⟨w2.heap.size,1,none⟩ (.slice a9 (sub1 b t.v).terms.length c9)) w2.heap.size 40 [.int .i64 (sub1 b t.v).const,.slice a9 (sub1 b t.v).terms.length c9]):=hJ ((HX90.out.set 0 _).set 1 _);have HBs:Hid (Below w2.heap.size w2 ((w5.setCell ⟨w2.heap.size,0,none⟩ (.int .i64 (sub1 b t.v).const)).setCell ⟨w2.heap.size,1,none⟩ (.slice a9 (sub1 b t.v).terms.length c9))):=hJ ((HB5.out.setCell (zR _) _).setCell (zR _) _);have HX6:=hJ (HX2.out.below HBs.out (by omega));have HX8:=hJ (HX8.out.below HBs.out h8);have HSv9:=hJ (HSv2.out.below HBs.out)
      have HS9:Hid (Sl kA7 All ((w5.setCell ⟨w2.heap.size,0,none⟩ (.int .i64 (sub1 b t.v).const)).setCell ⟨w2.heap.size,1,none⟩ (.slice a9 (sub1 b t.v).terms.length c9)) a9 (sub1 b t.v).terms.length c9 (sub1 b t.v).terms):=hJ ((hs9.frame fun q hq _=>by
       have hq:w2.heap.size+1≤q:=by simpa using hq
       rw [kAA (by show w2.heap.size≠q;omega),kAA (by show w2.heap.size≠q;omega)]).all)
      have HB9:Hid (Below w1.heap.size w1 ((w5.setCell ⟨w2.heap.size,0,none⟩ (.int .i64 (sub1 b t.v).const)).setCell ⟨w2.heap.size,1,none⟩ (.slice a9 (sub1 b t.v).terms.length c9))):=hJ (HB.out.trans ((HBB2.out.trans (HBs.out.mono (by omega))).mono HB.out.size));have h9:w2.heap.size<((w5.setCell ⟨w2.heap.size,0,none⟩ (.int .i64 (sub1 b t.v).const)).setCell ⟨w2.heap.size,1,none⟩ (.slice a9 (sub1 b t.v).terms.length c9)).heap.size:=HX9.out.lt;have v0:=HX9.out.cell 0 _ rfl;have v1:=HX9.out.cell 1 _ rfl;clear hs9 hb5
      go_wp2_with fail
      clear u0 u1 u2 u3 v0 v1 g80 HX8a;generalize ((w5.setCell ⟨w2.heap.size,0,none⟩ (.int .i64 (sub1 b t.v).const)).setCell ⟨w2.heap.size,1,none⟩ (.slice a9 (sub1 b t.v).terms.length c9))=X9 at *;have g60:=HX6.out.cell 0 _ rfl;have g61:=HX6.out.cell 1 _ rfl;have g80:=HX8.out.cell 0 _ rfl;have g81:=HX8.out.cell 1 _ rfl;have g90:=HX9.out.cell 0 _ rfl;have g91:=HX9.out.cell 1 _ rfl;have HCV2:=hJ (kCH (w:=X9) (x:=sub1 b t.v) (cs:=[.int .i64 (sub1 b t.v).const,.slice a9 (sub1 b t.v).terms.length c9]) ⟨_,rfl,a9,c9,rfl,HS9.out⟩ (kE0 HS1.out));rw [HS1.out] at HCV2
      go_wp2_with fail
      refine (HCV2.out).mono ?_;rintro e w3 ⟨rfl,hb3⟩;have HX63:=hJ (HX6.out.below hb3 HX6.out.lt);have HX83:=hJ (HX8.out.below hb3 HX8.out.lt);have HX93:=hJ (HX9.out.below hb3 HX9.out.lt);have HS93:=hJ (HS9.out.below hb3);have HSv3:=hJ (HSv9.out.below hb3);have HB3:=hJ (HB9.out.trans (hb3.mono HB9.out.size));have g60:=HX63.out.cell 0 _ rfl;have g61:=HX63.out.cell 1 _ rfl;have g81:=HX83.out.cell 1 _ rfl;have g90:=HX93.out.cell 0 _ rfl;have g91:=HX93.out.cell 1 _ rfl;have hs3:wr.heap.size<w3.heap.size:=by have:=hb3.size;omega
      have HCT:=hJ (ref04_Times (w:=w3) (x:=acc) (y:=sub1 b t.v) (cs:=[.int .i64 acc.const,.slice av L cv]) (ds:=[.int .i64 (sub1 b t.v).const,.slice a9 (sub1 b t.v).terms.length c9]) ⟨_,rfl,av,cv,by rw [HL.out],by rw [HL.out];exact HSv3.out⟩ ⟨_,rfl,a9,c9,rfl,HS93.out⟩ (by omega) HOK.out HS1.out t.c HCb.out);clear hb3
      go_wp2_with fail
      refine HCT.out.mono ?_;rintro e w4 ⟨⟨ds4,rfl,hr4⟩,hb4⟩;obtain ⟨_,rfl,a4,c4,rfl,hs4⟩:=hr4;have HX64:=hJ (HX63.out.below hb4 (by omega));have k0:=HX64.out.cell 0 _ rfl;have k1:=HX64.out.cell 1 _ rfl;have k2:=HX64.out.fz 0;have k3:=HX64.out.fz 1
      have HVN:Hid (SlV kA7 (fun q=>w1.heap.size+1≤q) ((w4.setCell ⟨w1.heap.size,0,none⟩ (.int .i64 (kCJ acc (sub1 b t.v) t.c).const)).setCell ⟨w1.heap.size,1,none⟩ (.slice a4 (kCJ acc (sub1 b t.v) t.c).terms.length c4)) (.slice a4 (kCJ acc (sub1 b t.v) t.c).terms.length c4) (kCJ acc (sub1 b t.v) t.c).terms):=hJ (by
       refine ⟨a4,c4,rfl,(hs4.frame fun q hq _=>?_).mono (fun q hq _=>by omega)⟩;rw [kAA (by show w1.heap.size≠q;omega),kAA (by show w1.heap.size≠q;omega)])
      go_wp2_with fail
      go_roundw
      case rel=>exact ⟨j+1,_,by omega,by go_num,by rw [HStep.out];exact hJ ((HX64.out.set 0 _).set 1 _),by rw [HStep.out];exact HVN,hJ (((HB3.out.trans (hb4.mono HB3.out.size)).setCell (zR _) _).setCell (zR _) _)⟩
      case measure=>simp [intOf];omega
  · obtain rfl:j=n:=by omega
    have HEnd:Hid (kD4 b x.const (x.terms.take j)=kAD b x):=hJ (by rw [zT (by rw [HNX.out];exact zR _)];rfl);rw [HEnd.out] at HX HSV;obtain ⟨av,cv,rfl,hsv⟩:=HSV.out;have HCL:=hJ (ref04_limited (w:=wr) (x:=kAD b x) (cs:=[.int .i64 (kAD b x).const,.slice av (kAD b x).terms.length cv]) ⟨_,rfl,av,cv,rfl,hsv⟩ HZ.out);have q0:=HX.out.cell 0 _ rfl;have q1:=HX.out.cell 1 _ rfl;have HX40:=hJ (HX4.out.below HB.out hl4);clear hsv HSV
    go_wp2_with fail
    refine HCL.out.mono ?_;rintro e w5 ⟨⟨_,rfl,hr5⟩,hb5⟩;obtain ⟨_,rfl,a5,c5,rfl,hs5⟩:=hr5;have HX5:=hJ (HX40.out.below hb5 (by omega));have u0:=HX5.out.cell 0 _ rfl;have u1:=HX5.out.cell 1 _ rfl;have u2:=HX5.out.fz 0;have u3:=HX5.out.fz 1;have HX60:=hJ ((HX5.out.set 0 (.int .i64 (limL (kAD b x)).const)).set 1 (.slice a5 (limL (kAD b x)).terms.length c5));have s0:=HX60.out.cell 0 _ rfl;have s1:=HX60.out.cell 1 _ rfl;have HS5:=hJ hs5;clear hs5
    go_wp2_with fail
    refine bodyPost_ret (v:=.tuple #[.agg #[.int .i64 (limL (kAD b x)).const,.slice a5 (limL (kAD b x)).terms.length c5],.int .i64 (limE (kAD b x))]) (by simp [results,results83,go_sem,s0,s1]) rfl ?_;refine ⟨⟨[.int .i64 (limL (kAD b x)).const,.slice a5 (limL (kAD b x)).terms.length c5],rfl,⟨_,rfl,a5,c5,rfl,?_⟩⟩,?_⟩
    · refine (HS5.out.frame fun q hq _=>?_).mono (fun q hq _=>by have:=HW.out.size;omega)
      rw [kAA (by show w.heap.size+1≠q;omega),kAA (by show w.heap.size+1≠q;omega)]
    · exact HW.out.trans ((((HB.out.trans (hb5.mono HB.out.size)).mono HW.out.size).setCell (by show _≤w.heap.size+1;omega) _).setCell (by show _≤w.heap.size+1;omega) _)
def Fx (b:List Bnd) (T:Blk) (w:World):Blk:=fun k=>(¬kCF b∧T k∧k<w.heap.size)∨w.heap.size≤k
theorem Fx.plain {b:List Bnd} {T:Blk} {w:World} (h:kCF b) {k:Nat} (hk:Fx b T w k):w.heap.size≤k:=hk.elim (fun q=>absurd h q.1) id
theorem kH9 {S T:Blk} (row:Str) (a0:Option Addr) (n0 c0:Nat) (l0 l:List Lin) (a:Option Addr) (n c:Nat) (w:World) (h0:Sl RLin T w a0 n0 c0 l0) (h:Sl RLin S w a n c l) (hn:n0+n≤6) :
 Calls Tryz.prog 214 #[.string row,.slice a0 n0 c0,.slice a n c] w fun e w'=>(∃ a5 c5,e= .returned (.tuple #[.agg #[.string row,.slice a5 (n0+n) c5],.int .i64 0])∧Sl RLin (fun k=>((T k∨S k)∧k<w.heap.size)∨w.heap.size≤k) w' a5 (n0+n) c5 (l0++l))∧Below w.heap.size w w':=by
 have HL:=hJ h.len;have HL0:=hJ h0.len;have HS:=hJ (h.mono (S':=fun k=>(T k∨S k)∧k<w.heap.size) (fun k hk hlt=>⟨.inr hk,hlt⟩));have HS0:=hJ (h0.mono (S':=fun k=>(T k∨S k)∧k<w.heap.size) (fun k hk hlt=>⟨.inl hk,hlt⟩));have hm:=h.small;have hm0:=h0.small;have hn2:(n0:Int)+(n:Int)≤6:=by omega
 have B0:Hid (Below w.heap.size w (w.alloc (.cells #[.string ⟨#[]⟩,.slice none 0 0] 25))):=hJ ((zB _ _).alloc (zR _) _);have HT:=hJ (Bx.fresh w 25 [.string ⟨#[]⟩,.slice none 0 0]);have hq:∀ k,(Value.slice (some ⟨w.heap.size+1,0,none⟩) 0 0).ownBlock=some k→w.heap.size≤k:=by intro k e;simp [Value.ownBlock] at e;omega
 have HBj:Hid (Below w.heap.size w ((w.alloc (.cells #[.string ⟨#[]⟩,.slice none 0 0] 25)).alloc (.cells #[] 40))):=hJ (B0.out.alloc (by simp) _);have HSj:=hJ (HS0.out.later HBj.out (v:=.slice (some ⟨w.heap.size+1,0,none⟩) 0 0) hq);clear h h0;have tok1:=True.intro;go_enter func214,ntmps214
 go_wp2_with (first
  | (have _t:=tok1
     at_builtin
     refine app_sl kA2 rfl _ _ rfl (w.heap.size+1) (.slice (some ⟨w.heap.size+1,0,none⟩) 0 0) [] l0 rfl (Own.at0 RLin _ (fun k=>(T k∨S k)∧k<w.heap.size) (by (simp only [kAJ,kAF,Array.getElem?_push,Array.size_push];simp)) (zR _)) a0 n0 c0 rfl HSj.out (by simp;omega) (by unfold maxLen;simp;omega) (by simp) ?_;intro v4 w4 hown4 hb4 hk4;have HO4:=hJ hown4;have HB4:=hJ hb4
     change Kp (.slice (some ⟨w.heap.size+1,0,none⟩) 0 0) _ _ w4 at hk4
     have HX4:=hJ ((HT.out.alloc _).kp hk4 (by simp [Value.ownBlock]));have HBw4:Hid (Below w.heap.size w w4):=hJ ((B0.out.alloc (by simp) _).trans (hb4.mono (Nat.le_succ _)));clear tok1 hown4 hb4 hk4)
  | (at_builtin
     refine app_sl kA2 rfl _ _ rfl (w.heap.size+1) _ _ l rfl HO4.out a n c rfl ?r1 (by rw [List.nil_append,HL0.out];omega) (by unfold maxLen;rw [List.nil_append,HL0.out];omega) (by have:=HB4.out.size;simp at this;omega) ?_
     case r1=>exact HS.out.later HBw4.out (fun k e=>zE (Nat.le_succ _) (HO4.out.base_le k e))
     intro v5 w5 hown5 hb5 hk5;obtain ⟨a5,m5,c5,rfl⟩:=hown5.shape
     change Kp v4 _ _ w5 at hk5
     have HX5:=hJ (HX4.out.kp hk5 (HO4.out.ne (Nat.lt_succ_self _)));have u0:=HX5.out.cell 0 _ rfl;have u1:=HX5.out.cell 1 _ rfl;have u2:=HX5.out.fz 0;have u3:=HX5.out.fz 1;have HX60:=hJ ((HX5.out.set 0 (.string row)).set 1 (.slice a5 m5 c5));have s0:=HX60.out.cell 0 _ rfl;have s1:=HX60.out.cell 1 _ rfl))
 have hown5:Own RLin 40 (fun k=>(T k∨S k)∧k<w.heap.size) w5 (w.heap.size+1) (.slice a5 m5 c5) (l0++l):=hown5;have hll:(l0++l).length=n0+n:=by rw [zP,HL0.out,HL.out]
 obtain ⟨a6,c6,e6,hs6⟩:=hown5.sl;rw [Value.slice.injEq] at e6;obtain ⟨rfl,rfl,rfl⟩:=e6;rw [hll] at s0 s1 hs6 ⊢;refine bodyPost_ret (v:=.tuple #[.agg #[.string row,.slice a5 (n0+n) c5],.int .i64 0]) (by simp [results,results214,go_sem,s0,s1]) rfl ?_;refine ⟨⟨a5,c5,rfl,?_⟩,(((HBw4.out.trans (hb5.mono (Nat.le_succ _))).setCell (zR _) _).setCell (zR _) _)⟩;refine (hs6.frame fun q hq _=>?_).mono (fun q hq _=>by rcases hq with hq | hq;exact .inl hq;exact .inr (by omega));have hne:w.heap.size≠q:=by rcases hq with hq | hq <;> intro e <;> omega
 rw [kAA hne,kAA hne]
theorem ref11_join_long (row:Str) (a0:Option Addr) (n0 c0:Nat) (a:Option Addr) (n c:Nat) (w:World) (hn:¬ n0+n≤6) (hm:n0+n≤1000) :
 Calls Tryz.prog 214 #[.string row,.slice a0 n0 c0,.slice a n c] w fun e w'=>e= .returned (.tuple #[.agg #[.string ⟨#[]⟩,.slice none 0 0],.int .i64 3])∧Below w.heap.size w w':=by
 have hn2:¬ (n0:Int)+(n:Int)≤6:=by omega
 have B0:Hid (Below w.heap.size w (w.alloc (.cells #[.string ⟨#[]⟩,.slice none 0 0] 25))):=hJ ((zB _ _).alloc (zR _) _);have HT:=hJ (Bx.fresh w 25 [.string ⟨#[]⟩,.slice none 0 0]);have HX60:=hJ (((HT.out.alloc (.cells #[.string ⟨#[]⟩,.slice none 0 0] 25)).set 0 (.string ⟨#[]⟩)).set 1 (.slice none 0 0));have s0:=HX60.out.cell 0 _ rfl;have s1:=HX60.out.cell 1 _ rfl;go_enter func214,ntmps214
 (try simp only []);repeat (first | go_values | go_skip | go_guarded | go_step | go_upon)
 refine bodyPost_ret (v:=.tuple #[.agg #[.string ⟨#[]⟩,.slice none 0 0],.int .i64 3]) (by simp [results,results214,go_sem,s0,s1]) rfl ?_;exact ⟨rfl,B0.out⟩
theorem ref11_Subst {S T:Blk} {s:Shp} {cs:List Value} {w:World} (h:RShp.rd S w cs s) (hv:kAK s=true) (b:List Bnd) (a:Option Addr) (nb cb:Nat) (hbs:Sl RBnd T w a nb cb b) (hb:kA8 b=true) :
 Calls Tryz.prog 141 #[.agg cs.toArray,.slice a nb cb] w fun e w'=>(∃ ds,e= .returned (.tuple #[.agg ds.toArray,.int .i64 (kCL b s)])∧RShp.rd (Fx b T w) w' ds (kGK b s))∧Below w.heap.size w w':=by
 have HCV:Hid (∀ W,Below w.heap.size w W→Calls Tryz.prog 137 #[.agg cs.toArray] W fun e w'=>e= .returned (.bool true)∧Below W.heap.size W w') :=
  hJ (fun W hW=>hv ▸ kF5 (RShp.below h hW) (shp_sz hv))
 have HCB:Hid (∀ W,Below w.heap.size w W→Calls Tryz.prog 81 #[.slice a nb cb] W fun e w'=>e= .returned (.bool true)∧Below W.heap.size W w') :=
  hJ (fun W hW=>kD3 b a nb cb W (hbs.below hW) hb)
 obtain ⟨_,rfl,ad,cd,rfl,hds⟩:=h;have HDs:=hJ hds;have HBS:=hJ hbs;have HD:=hJ (kB1 hv);have HG:=hJ (kDN hb);have HGood:=hJ (fun (row:Str) (D:List Lin) (q1:kBP b s=⟨row,D⟩) q2 q3=>subShp_good (b:=b) (s:=s) q1 q2 q3);have HBad:=hJ (fun (i:Nat) (q1:i<s.dims.length) q2=>subShp_bad (b:=b) (s:=s) q1 q2);have HLong:=hJ (fun (row:Str) (D:List Lin) (q1:kBP b s=⟨row,D⟩) q2=>subShp_long (b:=b) (s:=s) q1 q2);have HRg:=hJ (fun (k:Nat) q1 q2=>subRow_good (b:=b) (s:=s) (k:=k) hb q1 q2);have HRow:Hid (kBP b s=if s.row.toList.isEmpty then ⟨s.row,[]⟩ else if 0≤kAW b 2 s.row then (b.getD (kAW b 2 s.row).toNat default).row else ⟨s.row,[]⟩):=hJ rfl;have hmd:=hds.small;have hnb:=hbs.small;have hd6:=(kB1 hv).1;clear hds hbs hv hb;generalize hnd:s.dims.length=n at *;have HND:=hJ hnd;clear hnd;obtain ⟨B0,ya,yb,hW0⟩:=box2 w 25 [.string s.row,.slice ad n cd] 25 [.string ⟨#[]⟩,.slice none 0 0];have xa0:=box0 ya 0 _ rfl;have xa1:=box0 ya 1 _ rfl;have xb0:=box0 yb 0 _ rfl;have xb1:=box0 yb 1 _ rfl;have bka:Bx _ _ _ _:=ya;have bkb:Bx _ _ _ _:=yb;clear ya yb;have HB4:=hJ bkb;clear bka bkb;go_enter func141,ntmps141
 go_wp2_with fail
 refine (HCV.out _ B0.out).mono ?_;rintro e w1 ⟨rfl,hb1⟩;have hW1:=B0.out.trans (hb1.mono B0.out.size)
 go_wp2_with fail
 refine (HCB.out _ hW1).mono ?_;rintro e w3 ⟨rfl,hb2⟩;have HW3:=hJ (hW1.trans (hb2.mono hW1.size));have g0:=kAE (kAE xa0 _ hb1) _ hb2;have g1:=kAE (kAE xa1 _ hb1) _ hb2;have HX43:=hJ ((HB4.out.below hb1 HB4.out.lt).below hb2 (HB4.out.below hb1 HB4.out.lt).lt);have hl43:=HX43.out.lt;clear xa0 xa1 xb0 xb1 hb1 hb2 hW1 HB4
 have HFnd:Hid (0≤kAW b 2 s.row→∃ k:Nat,kAW b 2 s.row=(k:Int)∧k<b.length):=hJ (fun q=>by
  unfold kAW idx at q ⊢;by_cases ha:b.any (isB 2 s.row)=true
  · rw [if_pos ha] at q ⊢
    exact ⟨b.findIdx (isB 2 s.row),rfl,(kGH ha).1⟩
  · rw [if_neg ha] at q;omega)
 go_wp2_with fail
 go_loopw [6,7] (fun v i wr=>∃ (k:Nat) (v0:Value),k≤n∧i= .int .i64 k∧v0=v∧Hid (∀ i,i<k→kAB (kAD b (s.dims.getD i default))=true)∧Hid (Own RLin 40 (fun q=>w3.heap.size≤q) wr w3.heap.size v ((s.dims.take k).map (kAD b)))∧Below w3.heap.size w3 wr) (fun _ i _=>n - (intOf i).toNat)
 case atStart=>exact ⟨0,_,Nat.zero_le _,rfl,rfl,hJ (fun i hi=>absurd hi (by omega)),hJ (Own.nil _ _ _ _ _),zB _ _⟩
 case round =>
  obtain ⟨k,v0,hk,rfl,rfl,HT,HO,hB⟩:=hrel;have g1w:=kAE g1 _ hB;by_cases hlt:k<n
  · obtain ⟨b1,off,rfl,hbW,_⟩:=HDs.out.form k hlt
    have HBw:=hJ (HW3.out.trans (hB.mono HW3.out.size));obtain ⟨t,hr,⟨at_,ct,rfl,hts⟩,c0,c1⟩:=(HDs.out.below HBw.out).lin k hlt;have HK:Hid (k<s.dims.length):=hJ (by rw [HND.out];exact hlt);have HNext:Hid ((s.dims.take (k+1)).map (kAD b)=(s.dims.take k).map (kAD b)++[kAD b (s.dims.getD k default)]):=hJ (by rw [kAU HK.out,List.map_append];rfl);have hkl:((s.dims.take k).map (kAD b)).length=k:=by rw [List.length_map,zN,HND.out];omega
    have HBk:=hJ (HBad.out k hlt);have HUp:=hJ (fun q=>upto HT.out (p:=fun j=>kAB (kAD b (s.dims.getD j default))=true) q);have HXv:=hJ (HD.out.2 _ (kAM HK.out));have HCx:=hJ (ref04_Subst hr HXv.out b _ nb cb (HBS.out.below HBw.out) HG.out);clear hr hts;generalize s.dims.getD k default=x at *;generalize (s.dims.take k).map (kAD b)=lk at *;have hX43w:=HX43.out.below hB hl43;by_cases hvx:kAB (kAD b x)=true
    · obtain ⟨e1,e2⟩:=kE1 hvx
      rw [e1,e2] at HCx;have HUp:=hJ (HUp.out hvx);clear e1 e2 hvx
      go_wp2_with fail
      refine HCx.out.mono ?_;rintro e w5 ⟨⟨_,rfl,hr5⟩,hb5⟩;obtain ⟨_,rfl,a5,c5,rfl,hs5⟩:=hr5;have HB5:Hid (Below wr.heap.size wr w5):=hJ hb5;have hsz5:w3.heap.size≤w5.heap.size:=by have h1:=HB5.out.size;have h2:=hB.size;omega
      have HRY:Hid (RLin.rd (fun q=>w3.heap.size≤q∧v0.ownBlock≠some q) w5 [.int .i64 (kAD b x).const,.slice a5 (kAD b x).terms.length c5] (kAD b x)):=hJ ⟨_,rfl,a5,c5,rfl,hs5.mono (fun q hq _=>by
       have hq:wr.heap.size≤q:=hq;refine ⟨by have:=hB.size;omega,fun e=>?_⟩;have:=(HO.out.block e).2;omega)⟩
      go_wp2_with (at_builtin;refine kA1 kA2 rfl _ _ rfl w3.heap.size _ _ rfl (((HO.out.below HB5.out).alloc _).alloc _) _ (kAD b x) [.int .i64 (kAD b x).const,.slice a5 (kAD b x).terms.length c5] rfl (RLin.below HRY.out (((zB _ _).alloc (zR _) _).alloc (by simp) _)) (kA3 40 (by (simp only [kAJ,kAF,Array.getElem?_push,Array.size_push];simp))) (by omega) (by unfold maxLen;omega) (by simp;omega) ?_;intro v9 w9 hown9 hb9 hk9)
      go_roundw
      case rel=>exact ⟨k+1,_,by omega,by go_num,rfl,HUp,hJ (by rw [HNext.out];exact hown9),(hB.trans (HB5.out.mono hB.size)).trans ((((zB _ _).alloc hsz5 _).alloc (by simp;omega) _).trans hb9)⟩
      case measure=>simp [intOf];omega
    · have hvx:kAB (kAD b x)=false:=by simpa using hvx
      obtain ⟨e1,e2⟩:=lim_bad hvx;rw [e1,e2] at HCx;obtain ⟨z1,z2⟩:=HBk.out hvx;have HZ1:=hJ z1;have HZ2:=hJ z2;clear e1 e2 hvx z1 z2
      go_wp2_with fail
      refine HCx.out.mono ?_;rintro e w5 ⟨⟨_,rfl,hr5⟩,hb5⟩;obtain ⟨_,rfl,a5,c5,rfl,hs5⟩:=hr5;have HB5:Hid (Below wr.heap.size wr w5):=hJ hb5;have HX45:=hJ (hX43w.below HB5.out hX43w.lt);have hx45:=HX45.out.lt;have u0:=HX45.out.cell 0 _ rfl;have u1:=HX45.out.cell 1 _ rfl;have u2:=HX45.out.fz 0;have u3:=HX45.out.fz 1;have HX60:=hJ ((HX45.out.set 0 (.string ⟨#[]⟩)).set 1 (.slice none 0 0));have s0:=HX60.out.cell 0 _ rfl;have s1:=HX60.out.cell 1 _ rfl
      go_wp2_with fail
      refine bodyPost_ret (v:=.tuple #[.agg #[.string ⟨#[]⟩,.slice none 0 0],.int .i64 3]) (by simp [results,results141,go_sem,s0,s1,hx45]) rfl ?_;refine ⟨⟨[.string ⟨#[]⟩,.slice none 0 0],by rw [HZ2.out],by rw [HZ1.out];exact ⟨_,rfl,none,0,rfl,Sl.empty _ _ _⟩⟩,?_⟩;exact (((HBw.out.trans (HB5.out.mono HBw.out.size)).setCell (by show _≤w.heap.size+1;omega) _).setCell (by show _≤w.heap.size+1;omega) _).alloc (by simp;omega) _
  · obtain rfl:k=n:=by omega
    have HAll:Hid ((s.dims.take k).map (kAD b)=s.dims.map (kAD b)):=hJ (by rw [zT (by rw [HND.out];exact zR _)]);rw [HAll.out] at HO;obtain ⟨av,cv,rfl,hsv⟩:=HO.out.sl;have hkl:(s.dims.map (kAD b)).length=k:=by rw [List.length_map,HND.out]
    rw [hkl] at hsv ⊢;have HBw:=hJ (HW3.out.trans (hB.mono HW3.out.size));have g0w:=kAE g0 _ hB;have HCF:=hJ (kEF b a nb cb wr (HBS.out.below HBw.out) 2 s.row);have HSv:=hJ (hsv.mono (S':=fun q=>w.heap.size+2≤q) (fun q hq _=>by have h9:w3.heap.size≤q:=(hq.elim id id);omega));have hX43w:=hJ (HX43.out.below hB hl43);have hx43:=hX43w.out.lt;have HKL:=hJ hkl;clear hsv hkl;by_cases he:s.row.toList.isEmpty=true
    · obtain ⟨D,hD⟩:∃ D:List Lin,D=[]:=⟨_,rfl⟩
      have HR:Hid (kBP b s=⟨s.row,D⟩):=hJ (by rw [hD,HRow.out,if_pos he]);have HDl:Hid (D.length=0):=hJ (by rw [hD];rfl);obtain ⟨nd,hnd⟩:∃ nd:Nat,nd=0:=⟨_,rfl⟩
      have h6:nd+k≤6:=by omega
      have HCM:Hid (Calls Tryz.prog 214 #[.string s.row,.slice none 0 0,.slice av k cv] wr fun e w'=>(∃ a5 c5,e=Ending.returned (.tuple #[.agg #[.string s.row,.slice a5 (nd+k) c5],.int .i64 0])∧Sl RLin (fun q=>(((¬kCF b∧T q∧q<w.heap.size)∨w.heap.size+2≤q)∧q<wr.heap.size)∨wr.heap.size≤q) w' a5 (nd+k) c5 (D++s.dims.map (kAD b)))∧Below wr.heap.size wr w'):=hJ (by
       rw [hnd,hD];exact kH9 (T:=fun q=>¬kCF b∧T q∧q<w.heap.size) s.row none 0 0 [] (s.dims.map (kAD b)) av k cv wr (Sl.empty _ _ _) HSv.out (by omega))
      rw [← hnd] at HDl;obtain ⟨z1,z2⟩:=HGood.out _ _ HR.out HT.out (by rw [HDl.out];exact h6);have HZ1:=hJ z1;have HZ2:=hJ z2;clear HRow z1 z2;generalize kAW b 2 s.row=q at *
      go_wp2_with fail
      refine (HCF.out).mono ?_;rintro e _ ⟨rfl,rfl⟩
      go_wp2_with fail
      clear hD hnd;refine HCM.out.mono ?_;rintro e w5 ⟨⟨a5,c5,rfl,hs5⟩,hb5⟩;have HX45:=hJ (hX43w.out.below hb5 hx43);have u0:=HX45.out.cell 0 _ rfl;have u1:=HX45.out.cell 1 _ rfl;have u2:=HX45.out.fz 0;have u3:=HX45.out.fz 1;have HS5:=hJ hs5;clear hs5;have HX60:=hJ ((HX45.out.set 0 (.string s.row)).set 1 (.slice a5 (nd+k) c5));have s0:=HX60.out.cell 0 _ rfl;have s1:=HX60.out.cell 1 _ rfl
      (try simp only []);repeat (first | go_values | go_skip | go_guarded | go_step | go_upon)
      refine bodyPost_ret (v:=.tuple #[.agg #[.string s.row,.slice a5 (nd+k) c5],.int .i64 0]) (by simp [results,results141,go_sem,s0,s1]) rfl ?_;refine ⟨⟨[.string s.row,.slice a5 (nd+k) c5],by rw [HZ2.out],?_⟩,?_⟩
      · rw [HZ1.out]
        have hlen:(D++s.dims.map (kAD b)).length=nd+k:=by rw [zP,HDl.out,HKL.out]
        refine ⟨_,rfl,a5,c5,by rw [hlen],?_⟩;have h1:=HS5.out;rw [show ({ row:=s.row,dims:=D++s.dims.map (kAD b) }:Shp).dims.length=nd+k from hlen]
        have hss:∀ q,((((¬kCF b∧T q∧q<w.heap.size)∨w.heap.size+2≤q)∧q<wr.heap.size)∨wr.heap.size≤q)→(¬kCF b∧T q∧q<w.heap.size)∨w.heap.size+2≤q:=fun q hq=>by
         rcases hq with hq | hq
         · exact hq.1
         · exact .inr (by omega)
        refine (h1.frame fun q hq _=>?_).mono (fun q hq _=>(hss q hq).elim .inl (fun r=>.inr (by omega)))
        have hne:w.heap.size+1≠q:=by
         rcases hss q hq with r | r
         · have:=r.2.2;omega
         · omega
        rw [kAA hne,kAA hne]
      · exact ((HBw.out.trans (hb5.mono HBw.out.size)).setCell (by show _≤w.heap.size+1;omega) _).setCell (by show _≤w.heap.size+1;omega) _
    · have he2:s.row.toList.isEmpty=false:=by simpa using he
      by_cases hq:0≤kAW b 2 s.row
      · obtain ⟨kk,hkk,hkl⟩:=HFnd.out hq
        have hkn:kk<nb:=by rw [← HBS.out.len];exact hkl
        have hgood:=HRg.out kk hkk hkl;have HR0:Hid (kBP b s=(b.getD kk default).row):=hJ (by rw [HRow.out,if_neg he,if_pos hq,hkk];rfl);have hpd:kCF b→(b.getD kk default).row.dims=[]:=fun h=>h _ (kAM hkl)
        rw [hkk] at HCF;clear hq he HFnd HRow hkk;obtain ⟨bb,boff,rfl,hbb,hSb⟩:=HBS.out.form kk hkn;obtain ⟨td,dd,hr,⟨⟨at1,ct1,rfl,_⟩,⟨ad1,cd1,rfl,hrd⟩⟩,e0,e1,e2,e3,e4,e5,e6⟩:=(((HBS.out.mono (S':=fun q=>T q∧q<w.heap.size) (fun q h1 h2=>⟨h1,h2⟩))).below HBw.out).bnd kk hkn;obtain ⟨hg6,hgd⟩:=kB1 hgood;have HR:Hid (kBP b s=⟨(b.getD kk default).row.row,(b.getD kk default).row.dims⟩):=hJ HR0.out;clear hr e0 e1 e2 e3 e6 hgood hgd HR0;generalize (b.getD kk default).row.row=rr at *;generalize (b.getD kk default).row.dims=D at *;generalize hnd:D.length=nd at *;have HDl:=hJ hnd
        have HRd:Hid (Sl RLin (fun q=>¬kCF b∧T q∧q<w.heap.size) wr ad1 nd cd1 D):=hJ (by
         by_cases hp:kCF b
         · have hD0:=hpd hp
           subst hD0;exact ⟨hrd.len,hrd.cap,hrd.max,hrd.nil,fun i x hx=>by simp at hx⟩
         · exact hrd.mono (fun q h1 _=>⟨hp,h1⟩))
        clear hnd hrd hpd;have hkn2:(kk:Int)<(nb:Int):=by omega
        have m0:=hX43w.out.cell 0 _ rfl;by_cases h6:nd+k≤6
        · obtain ⟨z1,z2⟩:=HGood.out _ _ HR.out HT.out (by rw [HDl.out];exact h6)
          have HZ1:=hJ z1;have HZ2:=hJ z2
          have HCM:=hJ (fun (W':World) (hW':Below wr.heap.size wr W')=>(kH9 rr ad1 nd cd1 D (s.dims.map (kAD b)) av k cv W' (HRd.out.below hW') (HSv.out.below hW') h6).mono fun e w' ⟨⟨a5,c5,he,hs⟩,hb⟩=>(⟨⟨a5,c5,he,hs.mono (fun q h1 _=>by
           rcases h1 with h1 | h1
           · by_cases hqw:q<wr.heap.size
             · exact .inl ⟨h1.1,hqw⟩
             · exact .inr (by omega)
           · exact .inr (by have:=hW'.size;omega))⟩,hb⟩:(∃ a5 c5,e=Ending.returned (.tuple #[.agg #[.string rr,.slice a5 (nd+k) c5],.int .i64 0])∧Sl RLin (fun q=>(((¬kCF b∧T q∧q<w.heap.size)∨w.heap.size+2≤q)∧q<wr.heap.size)∨wr.heap.size≤q) w' a5 (nd+k) c5 (D++s.dims.map (kAD b)))∧Below W'.heap.size W' w'))
          clear z1 z2
          go_wp2_with fail
          refine (HCF.out).mono ?_;rintro e _ ⟨rfl,rfl⟩
          go_wp2_with fail
          go_region_held3 (fun w'=>w'.cell? ⟨bb,boff+kk * 7+4,none⟩=some (.string rr)∧w'.cell? ⟨bb,boff+kk * 7+5,none⟩=some (.slice ad1 nd cd1)) (first | exact ⟨p0,p1⟩ | exact ⟨(World.cell?_setCell_far _ _ _ _ (by simp only [ne_eq];omega)).trans ((World.cell?_setCell_far _ _ _ _ (by simp only [ne_eq];omega)).trans p0),(World.cell?_setCell_far _ _ _ _ (by simp only [ne_eq];omega)).trans ((World.cell?_setCell_far _ _ _ _ (by simp only [ne_eq];omega)).trans p1)⟩ | go_keep) (first
           | (go_at_call 214
              refine (HCM.out _ (by first | exact zB _ _ | exact (zB _ _).drew)).mono ?_;rintro e w5 ⟨⟨a5,c5,rfl,hs5⟩,hb5⟩;have hb5:Below wr.heap.size wr w5:=(zB _ _).drew.trans hb5;have HX45:=hJ (hX43w.out.below hb5 hx43);have u0:=HX45.out.cell 0 _ rfl;have u1:=HX45.out.cell 1 _ rfl;have u2:=HX45.out.fz 0;have u3:=HX45.out.fz 1;have p0:=(hb5.cell (kB5 e4)).trans e4;have p1:=(hb5.cell (kB5 e5)).trans e5))
          have HS5:=hJ hs5;clear hs5;have HX60:=hJ ((HX45.out.set 0 (.string rr)).set 1 (.slice a5 (nd+k) c5));have s0:=HX60.out.cell 0 _ rfl;have s1:=HX60.out.cell 1 _ rfl
          (try simp only []);repeat (first | go_values | go_skip | go_guarded | go_step | go_upon)
          refine bodyPost_ret (v:=.tuple #[.agg #[.string rr,.slice a5 (nd+k) c5],.int .i64 0]) (by simp [results,results141,go_sem,s0,s1]) rfl ?_;refine ⟨⟨[.string rr,.slice a5 (nd+k) c5],by rw [HZ2.out],?_⟩,?_⟩
          · rw [HZ1.out]
            have hlen:(D++s.dims.map (kAD b)).length=nd+k:=by rw [zP,HDl.out,HKL.out]
            refine ⟨_,rfl,a5,c5,by rw [hlen],?_⟩;have h1:=HS5.out;rw [show ({ row:=rr,dims:=D++s.dims.map (kAD b) }:Shp).dims.length=nd+k from hlen]
            have hss:∀ q,((((¬kCF b∧T q∧q<w.heap.size)∨w.heap.size+2≤q)∧q<wr.heap.size)∨wr.heap.size≤q)→(¬kCF b∧T q∧q<w.heap.size)∨w.heap.size+2≤q:=fun q hq=>by
             rcases hq with hq | hq
             · exact hq.1
             · exact .inr (by omega)
            refine (h1.frame fun q hq _=>?_).mono (fun q hq _=>(hss q hq).elim .inl (fun r=>.inr (by omega)))
            have hne:w.heap.size+1≠q:=by
             rcases hss q hq with r | r
             · have:=r.2.2;omega
             · omega
            rw [kAA hne,kAA hne]
          · exact ((HBw.out.trans (hb5.mono HBw.out.size)).setCell (by show _≤w.heap.size+1;omega) _).setCell (by show _≤w.heap.size+1;omega) _
        · obtain ⟨z1,z2⟩:=HLong.out _ _ HR.out (by rw [HDl.out];exact h6)
          have HZ1:=hJ z1;have HZ2:=hJ z2;have hnd6:nd≤6:=hg6;have HCM:=hJ (fun (W':World) (hW':Below wr.heap.size wr W')=>ref11_join_long rr ad1 nd cd1 av k cv W' h6 (by omega));clear z1 z2
          go_wp2_with fail
          refine (HCF.out).mono ?_;rintro e _ ⟨rfl,rfl⟩
          go_wp2_with fail
          go_region_held3 (fun w'=>w'.cell? ⟨bb,boff+kk * 7+4,none⟩=some (.string rr)∧w'.cell? ⟨bb,boff+kk * 7+5,none⟩=some (.slice ad1 nd cd1)) (first | exact ⟨p0,p1⟩ | exact ⟨(World.cell?_setCell_far _ _ _ _ (by simp only [ne_eq];omega)).trans ((World.cell?_setCell_far _ _ _ _ (by simp only [ne_eq];omega)).trans p0),(World.cell?_setCell_far _ _ _ _ (by simp only [ne_eq];omega)).trans ((World.cell?_setCell_far _ _ _ _ (by simp only [ne_eq];omega)).trans p1)⟩ | go_keep) (first
           | (go_at_call 214
              refine (HCM.out _ (by first | exact zB _ _ | exact (zB _ _).drew)).mono ?_;rintro e w5 ⟨rfl,hb5⟩;have hb5:Below wr.heap.size wr w5:=(zB _ _).drew.trans hb5;have HX45:=hJ (hX43w.out.below hb5 hx43);have u0:=HX45.out.cell 0 _ rfl;have u1:=HX45.out.cell 1 _ rfl;have u2:=HX45.out.fz 0;have u3:=HX45.out.fz 1;have p0:=(hb5.cell (kB5 e4)).trans e4;have p1:=(hb5.cell (kB5 e5)).trans e5))
          have HX60:=hJ ((HX45.out.set 0 (.string ⟨#[]⟩)).set 1 (.slice none 0 0));have s0:=HX60.out.cell 0 _ rfl;have s1:=HX60.out.cell 1 _ rfl
          (try simp only []);repeat (first | go_values | go_skip | go_guarded | go_step | go_upon)
          refine bodyPost_ret (v:=.tuple #[.agg #[.string ⟨#[]⟩,.slice none 0 0],.int .i64 3]) (by simp [results,results141,go_sem,s0,s1]) rfl ?_;refine ⟨⟨[.string ⟨#[]⟩,.slice none 0 0],by rw [HZ2.out],by rw [HZ1.out];exact ⟨_,rfl,none,0,rfl,Sl.empty _ _ _⟩⟩,?_⟩;exact ((HBw.out.trans (hb5.mono HBw.out.size)).setCell (by show _≤w.heap.size+1;omega) _).setCell (by show _≤w.heap.size+1;omega) _
      · obtain ⟨D,hD⟩:∃ D:List Lin,D=[]:=⟨_,rfl⟩
        have HR:Hid (kBP b s=⟨s.row,D⟩):=hJ (by rw [hD,HRow.out,if_neg he,if_neg hq]);have HDl:Hid (D.length=0):=hJ (by rw [hD];rfl);obtain ⟨nd,hnd⟩:∃ nd:Nat,nd=0:=⟨_,rfl⟩
        have h6:nd+k≤6:=by omega
        have HCM:Hid (Calls Tryz.prog 214 #[.string s.row,.slice none 0 0,.slice av k cv] wr fun e w'=>(∃ a5 c5,e=Ending.returned (.tuple #[.agg #[.string s.row,.slice a5 (nd+k) c5],.int .i64 0])∧Sl RLin (fun q=>(((¬kCF b∧T q∧q<w.heap.size)∨w.heap.size+2≤q)∧q<wr.heap.size)∨wr.heap.size≤q) w' a5 (nd+k) c5 (D++s.dims.map (kAD b)))∧Below wr.heap.size wr w'):=hJ (by
         rw [hnd,hD];exact kH9 (T:=fun q=>¬kCF b∧T q∧q<w.heap.size) s.row none 0 0 [] (s.dims.map (kAD b)) av k cv wr (Sl.empty _ _ _) HSv.out (by omega))
        rw [← hnd] at HDl;obtain ⟨z1,z2⟩:=HGood.out _ _ HR.out HT.out (by rw [HDl.out];exact h6);have HZ1:=hJ z1;have HZ2:=hJ z2;have hq2:kAW b 2 s.row<0:=by omega
        clear hq he HFnd HRow z1 z2;generalize kAW b 2 s.row=q at *
        go_wp2_with fail
        refine (HCF.out).mono ?_;rintro e _ ⟨rfl,rfl⟩
        go_wp2_with fail
        clear hD hnd;refine HCM.out.mono ?_;rintro e w5 ⟨⟨a5,c5,rfl,hs5⟩,hb5⟩;have HX45:=hJ (hX43w.out.below hb5 hx43);have u0:=HX45.out.cell 0 _ rfl;have u1:=HX45.out.cell 1 _ rfl;have u2:=HX45.out.fz 0;have u3:=HX45.out.fz 1;have HS5:=hJ hs5;clear hs5;have HX60:=hJ ((HX45.out.set 0 (.string s.row)).set 1 (.slice a5 (nd+k) c5));have s0:=HX60.out.cell 0 _ rfl;have s1:=HX60.out.cell 1 _ rfl
        (try simp only []);repeat (first | go_values | go_skip | go_guarded | go_step | go_upon)
        refine bodyPost_ret (v:=.tuple #[.agg #[.string s.row,.slice a5 (nd+k) c5],.int .i64 0]) (by simp [results,results141,go_sem,s0,s1]) rfl ?_;refine ⟨⟨[.string s.row,.slice a5 (nd+k) c5],by rw [HZ2.out],?_⟩,?_⟩
        · rw [HZ1.out]
          have hlen:(D++s.dims.map (kAD b)).length=nd+k:=by rw [zP,HDl.out,HKL.out]
          refine ⟨_,rfl,a5,c5,by rw [hlen],?_⟩;have h1:=HS5.out;rw [show ({ row:=s.row,dims:=D++s.dims.map (kAD b) }:Shp).dims.length=nd+k from hlen]
          have hss:∀ q,((((¬kCF b∧T q∧q<w.heap.size)∨w.heap.size+2≤q)∧q<wr.heap.size)∨wr.heap.size≤q)→(¬kCF b∧T q∧q<w.heap.size)∨w.heap.size+2≤q:=fun q hq=>by
           rcases hq with hq | hq
           · exact hq.1
           · exact .inr (by omega)
          refine (h1.frame fun q hq _=>?_).mono (fun q hq _=>(hss q hq).elim .inl (fun r=>.inr (by omega)))
          have hne:w.heap.size+1≠q:=by
           rcases hss q hq with r | r
           · have:=r.2.2;omega
           · omega
          rw [kAA hne,kAA hne]
        · exact ((HBw.out.trans (hb5.mono HBw.out.size)).setCell (by show _≤w.heap.size+1;omega) _).setCell (by show _≤w.heap.size+1;omega) _
theorem typ_shp {x:Typ} (h:kAH x=true):kAK x.shape=true:=by unfold kAH at h;rw [zA] at h;exact h.2
theorem kDR {b:List Bnd} {x:Typ} (h:kA0 b x.shape=true):kIQ b x=kAP b x∧kCL b x.shape=0∧kGK b x.shape=kFZ b x.shape:=by
 unfold kIQ kCL kGK;rw [h];exact ⟨rfl,rfl,rfl⟩
theorem kB2 {b:List Bnd} {x:Typ} (h:kA0 b x.shape=false):kIQ b x=kB4∧kCL b x.shape=3∧kGK b x.shape=kEN:=by
 unfold kIQ kCL kGK;rw [h];exact ⟨rfl,rfl,rfl⟩
theorem find_nat {b:List Bnd} {k:Int} {v:Str} (q:0≤kAW b k v):∃ i:Nat,kAW b k v=(i:Int)∧i<b.length:=by
 unfold kAW idx at q ⊢;by_cases ha:b.any (isB k v)=true
 · rw [if_pos ha] at q ⊢
   exact ⟨b.findIdx (isB k v),rfl,(kGH ha).1⟩
 · rw [if_neg ha] at q;omega
theorem Sl.set {α :Type} {R:Rep α} {S:Blk} {w:World} {a:Option Addr} {n c:Nat} {l:List α} (h:Sl R S w a n c l) {ad:Addr} {u:Value} (hne:∀ q,S q→ad.block≠q):Sl R S (w.setCell ad u) a n c l:=h.frame (fun q hq _=>kAA (hne q hq))
theorem types_Subst {S T:Blk} {x:Typ} {cs:List Value} {w:World} (h:RTyp.rd S w cs x) (hv:kAH x=true) (b:List Bnd) (a:Option Addr) (nb cb:Nat) (hbs:Sl RBnd T w a nb cb b) (hb:kA8 b=true) (E:Env w) :
 Calls Tryz.prog 39 #[.agg cs.toArray,.slice a nb cb] w fun e w'=>(∃ ds,e= .returned (.tuple #[.agg ds.toArray,.int .i64 (kCL b x.shape)])∧RTyp.rd (fun k=>w.heap.size≤k) w' ds (kIQ b x))∧Below w.heap.size w w':=by
 have hvs:=typ_shp hv
 have HCV:Hid (∀ W,Below w.heap.size w W→Calls Tryz.prog 62 #[.agg cs.toArray] W fun e w'=>e= .returned (.bool true)∧Below W.heap.size W w') :=
  hJ (fun W hW=>hv ▸ kDH (RTyp.below h hW) (typ_sz hv) (E.below hW))
 have HCB:Hid (∀ W,Below w.heap.size w W→Calls Tryz.prog 38 #[.slice a nb cb] W fun e w'=>e= .returned (.bool true)∧Below W.heap.size W w') :=
  hJ (fun W hW=>kD2 b a nb cb W (hbs.below hW) hb (E.below hW))
 have HCS:=hJ (fun (W:World) (hW:Below w.heap.size w W)=>shape_Subst (S:=S) (s:=x.shape) (cs:=(cs.drop 1)) (w:=W) (by obtain ⟨t,rfl,ht⟩:=h;exact ⟨t,rfl,ht⟩ |> fun q=>RShp.below q hW) hvs b a nb cb (hbs.below hW) hb (E.below hW));obtain ⟨_,rfl,ad,cd,rfl,hds⟩:=h;have HBS:=hJ hbs;clear hds hbs hv hb;obtain ⟨B0,ya,yb,hW0⟩:=box2 w 27 [.string x.elem,.string x.shape.row,.slice ad x.shape.dims.length cd] 27 [.string ⟨#[]⟩,.string ⟨#[]⟩,.slice none 0 0];have xa0:=box0 ya 0 _ rfl;have xa1:=box0 ya 1 _ rfl;have xa2:=box0 ya 2 _ rfl;have xb0:=box0 yb 0 _ rfl;have xb1:=box0 yb 1 _ rfl;have xb2:=box0 yb 2 _ rfl;have bka:Bx _ _ _ _:=ya;have bkb:Bx _ _ _ _:=yb;clear ya yb;generalize x.shape.dims.length=nd at *;have HA0:=hJ bka;have HR0:=hJ bkb;clear bka bkb;go_enter func39,ntmps39
 go_wp2_with fail
 refine (HCV.out _ B0.out).mono ?_;rintro e w1 ⟨rfl,hb1⟩;have hW1:=B0.out.trans (hb1.mono B0.out.size)
 go_wp2_with fail
 refine (HCB.out _ hW1).mono ?_;rintro e w2 ⟨rfl,hb2⟩;have HW:=hJ (hW1.trans (hb2.mono hW1.size));have HA2:=hJ ((HA0.out.below hb1 HA0.out.lt).below hb2 (HA0.out.below hb1 HA0.out.lt).lt);have HR2:=hJ ((HR0.out.below hb1 HR0.out.lt).below hb2 (HR0.out.below hb1 HR0.out.lt).lt);have y0:=HA2.out.cell 0 _ rfl;have y1:=HA2.out.cell 1 _ rfl;have y2:=HA2.out.cell 2 _ rfl;have hl2:=HR2.out.lt;clear xa0 xa1 xa2 xb0 xb1 xb2 hb1 hb2 hW1 HR0 HA0 B0 HCV HCB
 go_wp2_with fail
 refine (HCS.out _ HW.out).mono ?_;rintro e w3 ⟨⟨_,rfl,hr3⟩,hb3⟩;obtain ⟨_,rfl,a5,c5,rfl,hs5⟩:=hr3;have HW3:=hJ (HW.out.trans (hb3.mono HW.out.size));have HA3:=hJ (HA2.out.below hb3 HA2.out.lt);have HR3:=hJ (HR2.out.below hb3 HR2.out.lt);have HS3:=hJ (hs5.mono (S':=fun k=>w.heap.size+2≤k∧k<w3.heap.size) (fun q hq hlt=>by have hq:w2.heap.size≤q:=hq;exact ⟨by omega,hlt⟩));have hl3:=HR3.out.lt;clear hs5 hb3 HA2 HR2 y0 y1 y2 HCS HW hW0;cases hok:kA0 b x.shape with
 | false =>
    have HF:Hid (kIQ b x=kB4∧kCL b x.shape=3):=hJ ⟨(kB2 hok).1,(kB2 hok).2.1⟩;have u0:=HR3.out.fz 0;have u1:=HR3.out.fz 1;have u2:=HR3.out.fz 2;have v0:=HR3.out.cell 0 _ rfl;have v1:=HR3.out.cell 1 _ rfl;have v2:=HR3.out.cell 2 _ rfl;have HX60:=hJ (((HR3.out.set 0 (.string ⟨#[]⟩)).set 1 (.string ⟨#[]⟩)).set 2 (.slice none 0 0));have s0:=HX60.out.cell 0 _ rfl;have s1:=HX60.out.cell 1 _ rfl;have s2:=HX60.out.cell 2 _ rfl;rw [(kB2 hok).2.2] at HS3 ⊢;rw [(kB2 hok).2.1];clear hok
    go_wp2_with fail
    refine bodyPost_ret (v:=.tuple #[.agg #[.string ⟨#[]⟩,.string ⟨#[]⟩,.slice none 0 0],.int .i64 3]) (by simp [results,results39,go_sem,s0,s1,s2,hl3]) rfl ?_;refine ⟨⟨_,by rw [HF.out.2],by rw [HF.out.1];exact ⟨_,rfl,none,0,rfl,Sl.empty _ _ _⟩⟩,?_⟩;exact (((HW3.out.setCell (by show _≤w.heap.size+1;omega) _).setCell (by show _≤w.heap.size+1;omega) _).setCell (by show _≤w.heap.size+1;omega) _).alloc (by simp;omega) _
 | true =>
    obtain ⟨z1,z2,z3⟩:=kDR hok;rw [z3] at HS3 ⊢;have HE:=hJ z2;rw [z2];have HF:=hJ z1;clear z1 z2 z3 hok;obtain ⟨er,ed⟩:∃ q,q=kFZ b x.shape:=⟨_,rfl⟩
    have HSh:Hid ((kAP b x).elem=kD8 b x.elem∧(kAP b x).shape=er):=hJ ⟨rfl,ed.symm⟩;rw [← ed] at HS3 ⊢;clear ed;have hA3:Below w3.heap.size w3 (w3.alloc (.cells #[.string er.row,.slice a5 er.dims.length c5] 25)):=(zB _ _).alloc (zR _) _;have HW4:=hJ (HW3.out.trans (hA3.mono HW3.out.size));have HCF:=hJ (kFE b a nb cb _ (HBS.out.below HW4.out) 3 x.elem);have y9:=HA3.out.cell 0 _ rfl;have hl9:=HA3.out.lt
    go_wp2_with fail
    refine HCF.out.mono ?_;rintro e w6 ⟨rfl,hb6⟩;have HW6:=hJ (HW4.out.trans (hb6.mono HW4.out.size));have HA6:=hJ ((HA3.out.alloc _).below hb6 (HA3.out.alloc _).lt);have HR6:=hJ ((HR3.out.alloc _).below hb6 (HR3.out.alloc _).lt);have HT6:=hJ ((Bx.fresh w3 25 [.string er.row,.slice a5 er.dims.length c5]).below hb6 (Bx.fresh _ _ _).lt);have HS6:=hJ ((HS3.out.below hA3).below hb6);have hl6:=HR6.out.lt;have ha6:=HA6.out.lt;have ht6:=HT6.out.lt;have u0:=HR6.out.fz 0;have u1:=HR6.out.fz 1;have u2:=HR6.out.fz 2;have v0:=HR6.out.cell 0 _ rfl;have v1:=HR6.out.cell 1 _ rfl;have v2:=HR6.out.cell 2 _ rfl;have t0:=HT6.out.cell 0 _ rfl;have t1:=HT6.out.cell 1 _ rfl;clear hb6 y9 hl9 HA3 HR3 HS3 hA3 HW4;have y0:=HA6.out.cell 0 _ rfl;by_cases hq:0≤kAW b 3 x.elem
    · obtain ⟨kk,hkk,hkl⟩:=find_nat hq
      have hkn:kk<nb:=by rw [← HBS.out.len];exact hkl
      have HEl:Hid (kD8 b x.elem=(b.getD kk default).elem):=hJ (by unfold kD8;rw [if_pos hq,hkk];rfl);rw [hkk];clear hq hkk;obtain ⟨bb,boff,rfl,hbb,hSb⟩:=HBS.out.form kk hkn;obtain ⟨td,dd,hr,⟨⟨at1,ct1,rfl,_⟩,⟨ad1,cd1,rfl,hrd⟩⟩,e0,e1,e2,e3,e4,e5,e6⟩:=(HBS.out.below HW6.out).bnd kk hkn;generalize (b.getD kk default).elem=ee at *;clear hr e0 e1 e2 e3 e4 e5 hrd;have r0:=HA6.out.fz 0;have hkn2:(kk:Int)<(nb:Int):=by omega
      have HR7:=hJ (HR6.out.other (a:=⟨w.heap.size,0,none⟩) (u:=.string ee) (by show w.heap.size≠_;omega));have HX60:=hJ (((HR7.out.set 0 (.string ee)).set 1 (.string er.row)).set 2 (.slice a5 er.dims.length c5));have s0:=HX60.out.cell 0 _ rfl;have s1:=HX60.out.cell 1 _ rfl;have s2:=HX60.out.cell 2 _ rfl
      go_wp2_with fail
      refine bodyPost_ret (v:=.tuple #[.agg #[.string ee,.string er.row,.slice a5 er.dims.length c5],.int .i64 0]) (by simp [results,results39,go_sem,s0,s1,s2,hl6]) rfl ?_;refine ⟨⟨[.string ee,.string er.row,.slice a5 er.dims.length c5],by rw [HE.out],?_⟩,?_⟩
      · rw [HF.out]
        refine ⟨.slice a5 er.dims.length c5,by rw [HSh.out.1,HSh.out.2,HEl.out],a5,c5,by rw [HSh.out.2],?_⟩;rw [HSh.out.2];refine Sl.mono (S:=fun k=>w.heap.size+2≤k∧k<w3.heap.size) ?_ (fun q hq _=>by have hq:=hq.1;omega)
        repeat (first | exact HS6.out | refine Sl.set ?_ (fun q hq=>by have hz:=HW3.out.size;have hq:w.heap.size+2≤q∧q<w3.heap.size:=hq;first | (show w.heap.size+1≠q;omega) | (show w.heap.size≠q;omega) | (show w3.heap.size+1≠q;omega)))
      · repeat (first | exact HW6.out | refine Below.setCell ?_ (by first | (show _≤w.heap.size+1;omega) | exact zR _ | (show _≤w3.heap.size+1;omega)) _)
    · have hq2:kAW b 3 x.elem<0:=by omega
      have HEl:Hid (kD8 b x.elem=x.elem):=hJ (by unfold kD8;rw [if_neg hq]);clear hq;generalize kAW b 3 x.elem=q at *;have HX60:=hJ (((HR6.out.set 0 (.string x.elem)).set 1 (.string er.row)).set 2 (.slice a5 er.dims.length c5));have s0:=HX60.out.cell 0 _ rfl;have s1:=HX60.out.cell 1 _ rfl;have s2:=HX60.out.cell 2 _ rfl
      go_wp2_with fail
      refine bodyPost_ret (v:=.tuple #[.agg #[.string x.elem,.string er.row,.slice a5 er.dims.length c5],.int .i64 0]) (by simp [results,results39,go_sem,s0,s1,s2,hl6]) rfl ?_;refine ⟨⟨[.string x.elem,.string er.row,.slice a5 er.dims.length c5],by rw [HE.out],?_⟩,?_⟩
      · rw [HF.out]
        refine ⟨.slice a5 er.dims.length c5,by rw [HSh.out.1,HSh.out.2,HEl.out],a5,c5,by rw [HSh.out.2],?_⟩;rw [HSh.out.2];refine Sl.mono (S:=fun k=>w.heap.size+2≤k∧k<w3.heap.size) ?_ (fun q hq _=>by have hq:=hq.1;omega)
        repeat (first | exact HS6.out | refine Sl.set ?_ (fun q hq=>by have hz:=HW3.out.size;have hq:w.heap.size+2≤q∧q<w3.heap.size:=hq;first | (show w.heap.size+1≠q;omega) | (show w.heap.size≠q;omega) | (show w3.heap.size+1≠q;omega)))
      · repeat (first | exact HW6.out | refine Below.setCell ?_ (by first | (show _≤w.heap.size+1;omega) | exact zR _ | (show _≤w3.heap.size+1;omega)) _)
theorem ref12_Subst {S T:Blk} {x:Typ} {cs:List Value} {w:World} (h:RTyp.rd S w cs x) (hv:kAH x=true) (b:List Bnd) (a:Option Addr) (nb cb:Nat) (hbs:Sl RBnd T w a nb cb b) (hb:kA8 b=true) :
 Calls Tryz.prog 82 #[.agg cs.toArray,.slice a nb cb] w fun e w'=>(∃ ds,e= .returned (.tuple #[.agg ds.toArray,.int .i64 (kCL b x.shape)])∧RTyp.rd (Fx b T w) w' ds (kIQ b x))∧Below w.heap.size w w':=by
 have hvs:=typ_shp hv
 have HCV:Hid (∀ W,Below w.heap.size w W→Calls Tryz.prog 79 #[.agg cs.toArray] W fun e w'=>e= .returned (.bool true)∧Below W.heap.size W w') :=
  hJ (fun W hW=>hv ▸ kH8 (RTyp.below h hW) (typ_sz hv))
 have HCB:Hid (∀ W,Below w.heap.size w W→Calls Tryz.prog 81 #[.slice a nb cb] W fun e w'=>e= .returned (.bool true)∧Below W.heap.size W w') :=
  hJ (fun W hW=>kD3 b a nb cb W (hbs.below hW) hb)
 have HCS:=hJ (fun (W:World) (hW:Below w.heap.size w W)=>ref11_Subst (S:=S) (s:=x.shape) (cs:=(cs.drop 1)) (w:=W) (by obtain ⟨t,rfl,ht⟩:=h;exact ⟨t,rfl,ht⟩ |> fun q=>RShp.below q hW) hvs b a nb cb ((hbs.mono (S':=fun k=>T k∧k<w.heap.size) (fun k h1 h2=>⟨h1,h2⟩)).below hW) hb);obtain ⟨_,rfl,ad,cd,rfl,hds⟩:=h;have HBS:=hJ hbs;clear hds hbs hv hb;obtain ⟨B0,ya,yb,hW0⟩:=box2 w 27 [.string x.elem,.string x.shape.row,.slice ad x.shape.dims.length cd] 27 [.string ⟨#[]⟩,.string ⟨#[]⟩,.slice none 0 0];have xa0:=box0 ya 0 _ rfl;have xa1:=box0 ya 1 _ rfl;have xa2:=box0 ya 2 _ rfl;have xb0:=box0 yb 0 _ rfl;have xb1:=box0 yb 1 _ rfl;have xb2:=box0 yb 2 _ rfl;have bka:Bx _ _ _ _:=ya;have bkb:Bx _ _ _ _:=yb;clear ya yb;generalize x.shape.dims.length=nd at *;have HA0:=hJ bka;have HR0:=hJ bkb;clear bka bkb;go_enter func82,ntmps82
 go_wp2_with fail
 refine (HCV.out _ B0.out).mono ?_;rintro e w1 ⟨rfl,hb1⟩;have hW1:=B0.out.trans (hb1.mono B0.out.size)
 go_wp2_with fail
 refine (HCB.out _ hW1).mono ?_;rintro e w2 ⟨rfl,hb2⟩;have HW:=hJ (hW1.trans (hb2.mono hW1.size));have HA2:=hJ ((HA0.out.below hb1 HA0.out.lt).below hb2 (HA0.out.below hb1 HA0.out.lt).lt);have HR2:=hJ ((HR0.out.below hb1 HR0.out.lt).below hb2 (HR0.out.below hb1 HR0.out.lt).lt);have y0:=HA2.out.cell 0 _ rfl;have y1:=HA2.out.cell 1 _ rfl;have y2:=HA2.out.cell 2 _ rfl;have hl2:=HR2.out.lt;clear xa0 xa1 xa2 xb0 xb1 xb2 hb1 hb2 hW1 HR0 HA0 B0 HCV HCB
 go_wp2_with fail
 refine (HCS.out _ HW.out).mono ?_;rintro e w3 ⟨⟨_,rfl,hr3⟩,hb3⟩;obtain ⟨_,rfl,a5,c5,rfl,hs5⟩:=hr3;have HW3:=hJ (HW.out.trans (hb3.mono HW.out.size));have HA3:=hJ (HA2.out.below hb3 HA2.out.lt);have HR3:=hJ (HR2.out.below hb3 HR2.out.lt);have HS3:=hJ (hs5.mono (S':=fun k=>(¬kCF b∧T k∧k<w.heap.size)∨(w.heap.size+2≤k∧k<w3.heap.size)) (fun q hq hlt=>by rcases hq with hq | hq;exact .inl ⟨hq.1,hq.2.1⟩;exact .inr ⟨by omega,hlt⟩));have hl3:=HR3.out.lt;clear hs5 hb3 HA2 HR2 y0 y1 y2 HCS HW hW0;cases hok:kA0 b x.shape with
 | false =>
    have HF:Hid (kIQ b x=kB4∧kCL b x.shape=3):=hJ ⟨(kB2 hok).1,(kB2 hok).2.1⟩;have u0:=HR3.out.fz 0;have u1:=HR3.out.fz 1;have u2:=HR3.out.fz 2;have v0:=HR3.out.cell 0 _ rfl;have v1:=HR3.out.cell 1 _ rfl;have v2:=HR3.out.cell 2 _ rfl;have HX60:=hJ (((HR3.out.set 0 (.string ⟨#[]⟩)).set 1 (.string ⟨#[]⟩)).set 2 (.slice none 0 0));have s0:=HX60.out.cell 0 _ rfl;have s1:=HX60.out.cell 1 _ rfl;have s2:=HX60.out.cell 2 _ rfl;rw [(kB2 hok).2.2] at HS3 ⊢;rw [(kB2 hok).2.1];clear hok
    go_wp2_with fail
    refine bodyPost_ret (v:=.tuple #[.agg #[.string ⟨#[]⟩,.string ⟨#[]⟩,.slice none 0 0],.int .i64 3]) (by simp [results,results82,go_sem,s0,s1,s2,hl3]) rfl ?_;refine ⟨⟨_,by rw [HF.out.2],by rw [HF.out.1];exact ⟨_,rfl,none,0,rfl,Sl.empty _ _ _⟩⟩,?_⟩;exact (((HW3.out.setCell (by show _≤w.heap.size+1;omega) _).setCell (by show _≤w.heap.size+1;omega) _).setCell (by show _≤w.heap.size+1;omega) _).alloc (by simp;omega) _
 | true =>
    obtain ⟨z1,z2,z3⟩:=kDR hok;rw [z3] at HS3 ⊢;have HE:=hJ z2;rw [z2];have HF:=hJ z1;clear z1 z2 z3 hok;obtain ⟨er,ed⟩:∃ q,q=kFZ b x.shape:=⟨_,rfl⟩
    have HSh:Hid ((kAP b x).elem=kD8 b x.elem∧(kAP b x).shape=er):=hJ ⟨rfl,ed.symm⟩;rw [← ed] at HS3 ⊢;clear ed;obtain ⟨w4,hw4⟩:∃ q,q=(w3.alloc (.cells #[.string er.row,.slice a5 er.dims.length c5] 25)).alloc (.cells #[.string x.elem,.string er.row,.slice a5 er.dims.length c5] 27):=⟨_,rfl⟩
    have hA3:Below w3.heap.size w3 w4:=by rw [hw4];exact ((zB _ _).alloc (zR _) _).alloc (by simp) _
    have HW6:=hJ (HW3.out.trans (hA3.mono HW3.out.size));have HCF:=hJ (kEF b a nb cb w4 (HBS.out.below HW6.out) 3 x.elem);have y9:=HA3.out.cell 0 _ rfl;have hl9:=HA3.out.lt;have HA6:Hid (Bx w4 _ _ _):=hJ (hw4 ▸ (HA3.out.alloc _).alloc _);have HR6:Hid (Bx w4 _ _ _):=hJ (hw4 ▸ (HR3.out.alloc _).alloc _)
    have HT6:Hid (Bx w4 (w3.heap.size+1) 27 [.string x.elem,.string er.row,.slice a5 er.dims.length c5]):=hJ (by
     have:=Bx.fresh (w3.alloc (.cells #[.string er.row,.slice a5 er.dims.length c5] 25)) 27 [.string x.elem,.string er.row,.slice a5 er.dims.length c5];rw [hw4];simpa using this)
    have HS6:=hJ (HS3.out.below hA3);have hl6:=HR6.out.lt;have ha6:=HA6.out.lt;have ht6:=HT6.out.lt;have u0:=HR6.out.fz 0;have u1:=HR6.out.fz 1;have u2:=HR6.out.fz 2;have v0:=HR6.out.cell 0 _ rfl;have v1:=HR6.out.cell 1 _ rfl;have v2:=HR6.out.cell 2 _ rfl;have t0:=HT6.out.cell 0 _ rfl;have t1:=HT6.out.cell 1 _ rfl;have t2:=HT6.out.cell 2 _ rfl;have hfold:(w3.alloc (.cells #[.string er.row,.slice a5 er.dims.length c5] 25)).alloc (.cells #[.string x.elem,.string er.row,.slice a5 er.dims.length c5] 27)=w4:=hw4.symm;clear hA3 HA3 HR3 HS3 hw4;have y0:=HA6.out.cell 0 _ rfl;by_cases hq:0≤kAW b 3 x.elem
    · obtain ⟨kk,hkk,hkl⟩:=find_nat hq
      have hkn:kk<nb:=by rw [← HBS.out.len];exact hkl
      have HEl:Hid (kD8 b x.elem=(b.getD kk default).elem):=hJ (by unfold kD8;rw [if_pos hq,hkk];rfl);rw [hkk] at HCF;clear hq hkk;obtain ⟨bb,boff,rfl,hbb,hSb⟩:=HBS.out.form kk hkn;obtain ⟨td,dd,hr,⟨⟨at1,ct1,rfl,_⟩,⟨ad1,cd1,rfl,hrd⟩⟩,e0,e1,e2,e3,e4,e5,e6⟩:=(HBS.out.below HW6.out).bnd kk hkn;generalize (b.getD kk default).elem=ee at *;clear hr e0 e1 e2 e3 e4 e5 hrd;have hkn2:(kk:Int)<(nb:Int):=by omega
      have r0:=HT6.out.fz 0;have HR7:=hJ (HR6.out.other (a:=⟨w3.heap.size+1,0,none⟩) (u:=.string ee) (by show w3.heap.size+1≠_;omega))
      go_wp2_with fail
      refine (HCF.out).mono ?_;rintro e _ ⟨rfl,rfl⟩
      go_wp2_with fail
      have HX60:=hJ (((HR7.out.set 0 (.string ee)).set 1 (.string er.row)).set 2 (.slice a5 er.dims.length c5));have s0:=HX60.out.cell 0 _ rfl;have s1:=HX60.out.cell 1 _ rfl;have s2:=HX60.out.cell 2 _ rfl
      go_wp2_with fail
      refine bodyPost_ret (v:=.tuple #[.agg #[.string ee,.string er.row,.slice a5 er.dims.length c5],.int .i64 0]) (by simp [results,results82,go_sem,s0,s1,s2,hl6]) rfl ?_;refine ⟨⟨[.string ee,.string er.row,.slice a5 er.dims.length c5],by rw [HE.out],?_⟩,?_⟩
      · rw [HF.out]
        refine ⟨.slice a5 er.dims.length c5,by rw [HSh.out.1,HSh.out.2,HEl.out],a5,c5,by rw [HSh.out.2],?_⟩;rw [HSh.out.2];refine Sl.mono (S:=fun k=>(¬kCF b∧T k∧k<w.heap.size)∨(w.heap.size+2≤k∧k<w3.heap.size)) ?_ (fun q hq _=>by exact hq.elim .inl (fun r=>.inr (by omega)))
        repeat (first | exact HS6.out | refine Sl.set ?_ (fun q hq=>by have hz:=HW3.out.size;have hq:q<w.heap.size∨(w.heap.size+2≤q∧q<w3.heap.size):=hq.elim (fun r=>.inl r.2.2) .inr;first | (show w.heap.size+1≠q;omega) | (show w.heap.size≠q;omega) | (show w3.heap.size+1≠q;omega)))
      · repeat (first | exact HW6.out | refine Below.setCell ?_ (by first | (show _≤w.heap.size+1;omega) | exact zR _ | (show _≤w3.heap.size+1;omega)) _)
    · have hq2:kAW b 3 x.elem<0:=by omega
      have HEl:Hid (kD8 b x.elem=x.elem):=hJ (by unfold kD8;rw [if_neg hq]);clear hq;generalize kAW b 3 x.elem=q at *
      go_wp2_with fail
      refine (HCF.out).mono ?_;rintro e _ ⟨rfl,rfl⟩
      go_wp2_with fail
      have HX60:=hJ (((HR6.out.set 0 (.string x.elem)).set 1 (.string er.row)).set 2 (.slice a5 er.dims.length c5));have s0:=HX60.out.cell 0 _ rfl;have s1:=HX60.out.cell 1 _ rfl;have s2:=HX60.out.cell 2 _ rfl
      go_wp2_with fail
      refine bodyPost_ret (v:=.tuple #[.agg #[.string x.elem,.string er.row,.slice a5 er.dims.length c5],.int .i64 0]) (by simp [results,results82,go_sem,s0,s1,s2,hl6]) rfl ?_;refine ⟨⟨[.string x.elem,.string er.row,.slice a5 er.dims.length c5],by rw [HE.out],?_⟩,?_⟩
      · rw [HF.out]
        refine ⟨.slice a5 er.dims.length c5,by rw [HSh.out.1,HSh.out.2,HEl.out],a5,c5,by rw [HSh.out.2],?_⟩;rw [HSh.out.2];refine Sl.mono (S:=fun k=>(¬kCF b∧T k∧k<w.heap.size)∨(w.heap.size+2≤k∧k<w3.heap.size)) ?_ (fun q hq _=>by exact hq.elim .inl (fun r=>.inr (by omega)))
        repeat (first | exact HS6.out | refine Sl.set ?_ (fun q hq=>by have hz:=HW3.out.size;have hq:q<w.heap.size∨(w.heap.size+2≤q∧q<w3.heap.size):=hq.elim (fun r=>.inl r.2.2) .inr;first | (show w.heap.size+1≠q;omega) | (show w.heap.size≠q;omega) | (show w3.heap.size+1≠q;omega)))
      · repeat (first | exact HW6.out | refine Below.setCell ?_ (by first | (show _≤w.heap.size+1;omega) | exact zR _ | (show _≤w3.heap.size+1;omega)) _)
theorem addAll_kinds {p:Int→Prop} (h1:p 1):∀ (ns:List Str) (l:List Bnd),(∀ y ∈ l,p y.kind)→∀ y ∈ addAll l ns,p y.kind
 | [],l,h=>h
 | n :: ns,l,h=>addAll_kinds h1 ns (addV l 1 n) (fun y hy=>by
   unfold addV at hy
   split at hy
   · exact h y hy
   · rcases List.mem_append.1 hy with q | q
     · exact h y q
     · rw [List.mem_singleton.1 q];exact h1)
theorem varsV_kinds (s:Shp):∀ y ∈ kC3 s,y.kind≠3:=by
 unfold kC3
 split
 · unfold varsS
   refine addAll_kinds (p:=fun k=>k≠3) (by decide) _ _ ?_;unfold rowV
   split
   · intro y hy;simp at hy
   · intro y hy
     unfold addV at hy
     split at hy
     · simp at hy
     · simp at hy;rw [hy];show (2:Int)≠3;decide
 · intro y hy;simp at hy
theorem find_kind {l:List Bnd} {k:Int} (h:∀ y ∈ l,y.kind≠k) (v:Str):kAW l k v<0:=by
 rw [kCU,List.any_eq_false];intro y hy;unfold isB;rw [beq_eq_false_iff_ne.2 (h y hy)];simp
theorem types_TypeVars {S:Blk} {x:Typ} {cs:List Value} {w:World} (h:RTyp.rd S w cs x) (hv:kAH x=true) (E:Env w) :
 Calls Tryz.prog 69 #[.agg cs.toArray] w fun e w'=>(∃ v,e= .returned v∧Own RBnd 42 (fun _=>False) w' w.heap.size v (kBN x))∧Below w.heap.size w w':=by
 have HV:Hid (∀ W,Below w.heap.size w W→Calls Tryz.prog 62 #[.agg cs.toArray] W fun e w'=>e= .returned (.bool true)∧Below W.heap.size W w') :=
  hJ (fun W hW=>hv ▸ kDH (RTyp.below h hW) (typ_sz hv) (E.below hW))
 obtain ⟨t,rfl,a,c,rfl,hs⟩:=h;have hez:x.elem.size≤281474976710656:=zE (typ_sz hv).1 (by decide)
 have HC:Hid (∀ W,Below w.heap.size w W→Calls Tryz.prog 124 #[.agg #[.string x.shape.row,.slice a x.shape.dims.length c]] W fun e w'=>(∃ v,e= .returned v∧Own RBnd 42 (fun _=>False) w' W.heap.size v (kC3 x.shape))∧Below W.heap.size W w') :=
  hJ (fun W hW=>shape_Vars (S:=S) (cs:=[.string x.shape.row,.slice a x.shape.dims.length c]) ⟨_,rfl,a,c,rfl,hs.below hW⟩ (typ_shp hv) (E.below hW))
 have HLen:=hJ (varsV_len x.shape);have HE:Hid (∀ W,Calls Tryz.prog 110 #[.string x.elem] W fun e w'=>e= .returned (.bool (kAQ x.elem))∧Below W.heap.size W w'):=hJ (fun W=>kCA x.elem hez W);have HF0:Hid (kBN x=if kAQ x.elem then addV (kC3 x.shape) 3 x.elem else kC3 x.shape):=hJ (by unfold kBN;rw [hv];rfl);have HN:=hJ (addV_new (find_kind (varsV_kinds x.shape) x.elem));clear hs hez hv E;obtain ⟨B0,ya,hW0⟩:=box1 w 27 [.string x.elem,.string x.shape.row,.slice a x.shape.dims.length c];have xa0:=box0 ya 0 _ rfl;have xa1:=box0 ya 1 _ rfl;have xa2:=box0 ya 2 _ rfl;have bka:Bx _ _ _ _:=ya;clear ya;have HBk:=hJ bka;clear bka;generalize kAQ x.elem=q at *;generalize kC3 x.shape=l at *;cases q with
 | true =>
   have HF:Hid (kBN x=l++[bare 3 x.elem]):=hJ (by rw [HF0.out,← HN.out];rfl);clear HF0;go_enter func69,ntmps69
   go_wp2_with fail
   refine (HV.out _ B0.out).mono ?_;rintro e w1 ⟨rfl,hb⟩;have HB1:=hJ (HBk.out.below hb (by simp));have y0:=HB1.out.cell 0 _ rfl;have y1:=HB1.out.cell 1 _ rfl;have y2:=HB1.out.cell 2 _ rfl;have HW:=hJ (B0.out.trans (hb.mono B0.out.size));clear xa0 xa1 xa2
   go_wp2_with fail
   refine (HC.out _ HW.out).mono ?_;rintro e w2 ⟨⟨v,rfl,hown⟩,hb2⟩;have HO:=hJ hown;obtain ⟨a2,m2,c2,rfl⟩:=hown.shape;have hl1:=HB1.out.lt;have HB2:=hJ (HB1.out.below hb2 hl1);have z0:=HB2.out.cell 0 _ rfl;clear hown y0 y1 y2
   go_wp2_with fail
   refine (HE.out _).mono ?_;rintro e w3 ⟨rfl,hb3⟩;have HB3:=hJ (HB2.out.below hb3 HB2.out.lt);have u0:=HB3.out.cell 0 _ rfl;have hz2:=hb2.size;have hz3:=hb3.size
   go_wp2_with (at_builtin;refine kA1 kCS rfl _ _ rfl w1.heap.size _ _ rfl ((HO.out.below hb3).alloc _) _ (bare 3 x.elem) [.int .i64 3,.string x.elem,.int .i64 0,.slice none 0 0,.string ⟨#[]⟩,.slice none 0 0,.string ⟨#[]⟩] rfl ⟨_,_,rfl,⟨none,0,rfl,Sl.empty _ _ _⟩,⟨none,0,rfl,Sl.empty _ _ _⟩⟩ (kA3 42 (by (simp only [kAJ,kAF,Array.getElem?_push,Array.size_push];simp))) (by have:=HLen.out;omega) (by have:=HLen.out;unfold maxLen;omega) (by simp;omega) ?_;intro v9 w9 hown9 hb9 hk9)
   go_ret;exact ⟨⟨_,rfl,by rw [HF.out];exact hown9.lower HW.out.size⟩,HW.out.trans (((hb2.trans (hb3.mono hz2)).alloc (by omega) _ |>.trans hb9).mono HW.out.size)⟩
 | false =>
   have HF:Hid (kBN x=l):=hJ (by rw [HF0.out];rfl);clear HF0;go_enter func69,ntmps69
   go_wp2_with fail
   refine (HV.out _ B0.out).mono ?_;rintro e w1 ⟨rfl,hb⟩;have HB1:=hJ (HBk.out.below hb (by simp));have y0:=HB1.out.cell 0 _ rfl;have y1:=HB1.out.cell 1 _ rfl;have y2:=HB1.out.cell 2 _ rfl;have HW:=hJ (B0.out.trans (hb.mono B0.out.size));clear xa0 xa1 xa2
   go_wp2_with fail
   refine (HC.out _ HW.out).mono ?_;rintro e w2 ⟨⟨v,rfl,hown⟩,hb2⟩;have HO:=hJ hown;obtain ⟨a2,m2,c2,rfl⟩:=hown.shape;have hl1:=HB1.out.lt;have HB2:=hJ (HB1.out.below hb2 hl1);have z0:=HB2.out.cell 0 _ rfl;clear hown y0 y1 y2
   go_wp2_with fail
   refine (HE.out _).mono ?_;rintro e w3 ⟨rfl,hb3⟩
   go_wp2_with fail
   go_ret;exact ⟨⟨_,rfl,by rw [HF.out];exact (HO.out.below hb3).lower HW.out.size⟩,HW.out.trans ((hb2.trans (hb3.mono hb2.size)).mono HW.out.size)⟩
theorem types_Vars {S:Blk} {s:Sch} {cs:List Value} {w:World} (h:RSch.rd S w cs s) (hv:kAI s=true) (E:Env w) :
 Calls Tryz.prog 20 #[.agg cs.toArray] w fun e w'=>(∃ v,e= .returned v∧Own RBnd 42 (fun _=>False) w' w.heap.size v (kAG s))∧Below w.heap.size w w':=by
 have HV:Hid (∀ W,Below w.heap.size w W→Calls Tryz.prog 16 #[.agg cs.toArray] W fun e w'=>e= .returned (.bool true)∧Below W.heap.size W w') :=
  hJ (fun W hW=>hv ▸ kBK (RSch.below h hW) (kGS hv) (E.below hW))
 have HE:=hJ (fun (W:World) (hW:Below w.heap.size w W)=>E.below hW);have hsp:=kAO hv;have HAV:=hJ (kBV hv);have HWV:=hJ hsp.2.2.2.2;have hpl:=hsp.1;have hwl:=hsp.2.1;have HF:Hid (kAG s=addAll (kBE (allT s)) (s.wh.flatMap kAL)):=hJ (by unfold kAG;rw [hv];rfl);obtain ⟨p,t,q,rfl,⟨ap,cp,rfl,hp⟩,⟨at_,ct,rfl,ht⟩,⟨aq,cq,rfl,hq⟩⟩:=h;have HP:=hJ hp;have HT:=hJ ht;have HQ:=hJ hq;have hAl:(allT s).length=s.params.length+1:=by unfold allT;rw [zP];rfl
 have hAe:allT s=s.params++[s.result]:=rfl;have HAe:=hJ hAe;clear hp ht hq hsp hv hAe;generalize hn:s.params.length=n at *;generalize hm:s.wh.length=m at *;have HN:=hJ hn;have HM:=hJ hm;have HAl:=hJ hAl;clear hn hm hAl;obtain ⟨B0,ya,hW0⟩:=box1 w 29 [.slice ap n cp,.string s.result.elem,.string s.result.shape.row,.slice at_ s.result.shape.dims.length ct,.slice aq m cq];have xa0:=box0 ya 0 _ rfl;have xa1:=box0 ya 1 _ rfl;have xa2:=box0 ya 2 _ rfl;have xa3:=box0 ya 3 _ rfl;have xa4:=box0 ya 4 _ rfl;have bka:Bx _ _ _ _:=ya;clear ya;have HBk:=hJ bka;clear bka;go_enter func20,ntmps20
 go_wp2_with fail
 refine (HV.out _ B0.out).mono ?_;rintro e w1 ⟨rfl,hb⟩;have HB1:=hJ (HBk.out.below hb (by simp));have y0:=HB1.out.cell 0 _ rfl;have y1:=HB1.out.cell 1 _ rfl;have y2:=HB1.out.cell 2 _ rfl;have y3:=HB1.out.cell 3 _ rfl;have hl1:=HB1.out.lt;have HW:=hJ (B0.out.trans (hb.mono B0.out.size));clear xa0 xa1 xa2 xa3 xa4 hb;have HA:Hid (Below w1.heap.size w1 ((w1.alloc (.cells #[.string s.result.elem,.string s.result.shape.row,.slice at_ s.result.shape.dims.length ct] 27)).alloc (.cells #[.slice ap n cp,.slice (some ⟨w1.heap.size,0,none⟩) 1 1] 22))):=hJ (((zB _ _).alloc (zR _) _).alloc (by simp) _)
 have HCat:=hJ (concat_Typ (S1:=fun k=>S k∧k<w.heap.size) (S2:=fun k=>(S k∧k<w.heap.size)∨k=w1.heap.size) s.params [s.result] ap n cp (some ⟨w1.heap.size,0,none⟩) 1 1 (w1.heap.size+1) ((w1.alloc (.cells #[.string s.result.elem,.string s.result.shape.row,.slice at_ s.result.shape.dims.length ct] 27)).alloc (.cells #[.slice ap n cp,.slice (some ⟨w1.heap.size,0,none⟩) 1 1] 22))
  (by have:=Bx.fresh (w1.alloc (.cells #[.string s.result.elem,.string s.result.shape.row,.slice at_ s.result.shape.dims.length ct] 27)) 22 [.slice ap n cp,.slice (some ⟨w1.heap.size,0,none⟩) 1 1];simpa using this)
  ((HP.out.mono (fun k hk hlt=>⟨hk,hlt⟩)).below (HW.out.trans (HA.out.mono HW.out.size)))
  (Sl.single (cs:=[.string s.result.elem,.string s.result.shape.row,.slice at_ s.result.shape.dims.length ct]) ((Bx.fresh w1 27 [.string s.result.elem,.string s.result.shape.row,.slice at_ s.result.shape.dims.length ct]).alloc _) ⟨_,rfl,at_,ct,rfl,(HT.out.mono (fun k hk hlt=>.inl ⟨hk,hlt⟩)).below (HW.out.trans (HA.out.mono HW.out.size))⟩ (.inr rfl)) (by omega) (by omega))
 go_wp2_with fail
 refine HCat.out.mono ?_;rintro e w2 ⟨⟨v,rfl,hown⟩,hb2⟩;clear HCat;have HB2:=hJ (HA.out.trans (hb2.mono HA.out.size));obtain ⟨al,cl,rfl,hsl⟩:=hown.sl;rw [← HAe.out,HAl.out] at hsl;have HLs:=hJ hsl;have hla:(s.params++[s.result]).length=n+1:=by rw [← HAe.out];exact HAl.out
 have hz2:=HB2.out.size;have HG2:=hJ (HB1.out.below HB2.out hl1);clear hown hsl hb2 y0 y1 y2 y3;rw [hla];have HLa:=hJ hla;clear hla;have HW2:=hJ (HW.out.trans (HB2.out.mono HW.out.size))
 go_wp2_with fail
 go_loopw [3,21] (fun v i wr=>∃ (k:Nat) (v0:Value),k≤n+1∧i= .int .i64 k∧v0=v∧Hid (Own RBnd 42 (fun _=>False) wr w2.heap.size v (kBE ((allT s).take k)))∧Below w2.heap.size w2 wr) (fun _ i _=>n+1 - (intOf i).toNat)
 case atStart=>exact ⟨0,_,Nat.zero_le _,rfl,rfl,hJ (Own.nil _ _ _ _ _),zB _ _⟩
 case round =>
  obtain ⟨k,v0,hk,rfl,rfl,HO,hB⟩:=hrel;have hsz:=hB.size;obtain ⟨a0,m0,c0,rfl⟩:=HO.out.shape;by_cases hlt:k<n+1
  · obtain ⟨b,off,rfl,hbW,_⟩:=HLs.out.form k hlt
    have hkl:k<(allT s).length:=by rw [HAl.out];exact hlt
    obtain ⟨t,hr,⟨ax,cx,rfl,hts⟩,e0,e1,e2⟩:=(HLs.out.below hB).typ k hlt;have HXv:=hJ (HAV.out _ (kAM hkl));have HNext:=hJ (varsAll_next hkl)
    have HLen:Hid ((kBE ((allT s).take k)).length≤2000):=hJ (by
     have q1:=kEI ((allT s).take k);rw [zN] at q1;omega)
    clear hkl;generalize (allT s).getD k default=x at *;have HCx:=hJ (fun (W:World) (hW:Below wr.heap.size wr W)=>types_TypeVars (RTyp.below hr hW) HXv.out (HE.out W (HW2.out.trans ((hB.trans (hW.mono hB.size)).mono HW2.out.size))));have HVl:=hJ (varsTy_len x);have HVb:=hJ (varsTy_inv HXv.out).bare;clear hr hts;have HAx:Hid (Below wr.heap.size wr (wr.alloc (.cells #[.string x.elem,.string x.shape.row,.slice ax x.shape.dims.length cx] 27))):=hJ ((zB _ _).alloc (zR _) _)
    go_wp2_with fail
    refine (HCx.out _ HAx.out).mono ?_;rintro e w3 ⟨⟨v3,rfl,hown3⟩,hb3⟩;obtain ⟨a3,c3,rfl,hs3,hA3⟩:=hown3.self;have HB3:=hJ (HAx.out.trans (hb3.mono HAx.out.size));have HW3:Hid (Calls _ _ _ _ _):=hJ (types_with (HO.out.below HB3.out) (by have:=HB3.out.size;omega) _ a3 _ c3 hs3 (fun q hq=>⟨(hA3 q hq).2,fun e=>by have h1:=(HO.out.block e).2;have h2:=(hA3 q hq).1;simp at h2;omega⟩) HVb.out (by have:=HLen.out;have:=HVl.out;omega));have hz3:=HB3.out.size;clear hown3 hs3 hA3 hb3;generalize kBN x=vs at *;generalize kBE ((allT s).take k)=l0 at *
    go_wp2_with fail
    refine HW3.out.mono ?_;rintro e w4 ⟨⟨v4,rfl,hown4,_⟩,hb4⟩
    go_wp2_with fail
    go_roundw
    case rel=>exact ⟨k+1,_,by omega,by go_num,rfl,hJ (by rw [HNext.out];exact hown4),(hB.trans (HB3.out.mono hsz)).trans hb4⟩
    case measure=>simp [intOf];omega
  · have HAll:Hid (kBE ((allT s).take k)=kBE (allT s)):=hJ (by rw [zT (by rw [HAl.out];omega)])
    have HO0:=hJ (HAll.out ▸ HO.out);have HG3:=hJ (HG2.out.below hB (by have:=HG2.out.lt;omega));have g4:=HG3.out.cell 4 _ rfl;have HQ2:=hJ (HQ.out.below HW2.out)
    have HL0:Hid ((kBE (allT s)).length≤2000):=hJ (by
     have q1:=kEI (allT s);rw [HAl.out] at q1;omega)
    clear HO HAll
    go_wp2_with fail
    go_loopw [3,33] (fun v i wr=>∃ (j:Nat) (v0:Value),j≤m∧i= .int .i64 j∧v0=v∧Hid (Own RBnd 42 (fun _=>False) wr w2.heap.size v (addAll (kBE (allT s)) ((s.wh.take j).flatMap kAL)))∧Below w2.heap.size w2 wr) (fun _ i _=>m - (intOf i).toNat)
    case atStart=>exact ⟨0,_,Nat.zero_le _,rfl,rfl,HO0,hB⟩
    case round =>
     obtain ⟨j,v0,hj,rfl,rfl,HO,hB2⟩:=hrel;have hsz2:=hB2.size;obtain ⟨a0,m0,c0,rfl⟩:=HO.out.shape;by_cases hlj:j<m
     · obtain ⟨b2,off2,rfl,hbW2,_⟩:=HQ2.out.form j hlj
       have hjl:j<s.wh.length:=by rw [HM.out];exact hlj
       obtain ⟨t,hr,⟨ax,cx,rfl,hts⟩,e0,e1⟩:=(HQ2.out.below hB2).lin j hlj;have hxv:=HWV.out _ (kAM hjl);have HX:=hJ (kBW hxv);have HNext:Hid ((s.wh.take (j+1)).flatMap kAL=(s.wh.take j).flatMap kAL++kAL (s.wh.getD j default)):=hJ (by rw [kAU hjl,List.flatMap_append];simp)
       have HLen:Hid ((addAll (kBE (allT s)) ((s.wh.take j).flatMap kAL)).length≤3000):=hJ (by
        have q1:=kBQ ((s.wh.take j).flatMap kAL) (kBE (allT s));have q2:=HL0.out;have q3:=kE2 (s.wh.take j) (fun x hx=>HWV.out x (List.mem_of_mem_take hx));rw [zN] at q3;omega)
       clear hjl hxv;generalize s.wh.getD j default=x at *;generalize hl0:addAll (kBE (allT s)) ((s.wh.take j).flatMap kAL)=l0 at *;have HL00:=hJ hl0;clear hl0;have HC:=hJ (fun (W:World) (hW:Below wr.heap.size wr W)=>kGA x ax _ cx W (hts.below hW) (by have:=HX.out;omega));clear hr hts;have hvl:(kAL x).length=x.terms.length:=kIJ x;have HVL:=hJ hvl;clear hvl;have HAx:Hid (Below wr.heap.size wr (wr.alloc (.cells #[.int .i64 x.const,.slice ax x.terms.length cx] 40))):=hJ ((zB _ _).alloc (zR _) _)
       go_wp2_with fail
       refine (HC.out _ HAx.out).mono ?_;rintro e w3 ⟨⟨v3,rfl,hown3⟩,hb3⟩;obtain ⟨a3,c3,rfl,hs3,hA3⟩:=hown3.self;have HB3:=hJ (HAx.out.trans (hb3.mono HAx.out.size));have hz3:=HB3.out.size;have HT3:Hid (Apart (At a3) w3 (.slice a0 m0 c0)):=hJ (fun q hq=>⟨(hA3 q hq).2,fun e=>by have h1:=(HO.out.block e).2;have h2:=(hA3 q hq).1;simp at h2;omega⟩);have HS3:=hJ hs3;have HO3:=hJ (HO.out.below HB3.out);have HB23:=hJ (hB2.trans (HB3.out.mono hsz2));clear hown3 hs3 hA3 hb3 HC HO e0 e1;rw [HVL.out] at HS3 ⊢;generalize hxl:x.terms.length=n3 at *;have HXL:=hJ hxl;clear hxl;have hn3:n3≤12:=by have:=HX.out;omega
       go_wp2_with fail
       go_loopw [3,40] (fun v i wr=>∃ (i3:Nat) (v0:Value),i3≤n3∧i= .int .i64 i3∧v0=v∧Hid (Own RBnd 42 (fun _=>False) wr w2.heap.size v (addAll l0 ((kAL x).take i3)))∧Hid (Sl RStr (At a3) wr a3 n3 c3 (kAL x))∧Hid (Apart (At a3) wr v)∧Below w2.heap.size w2 wr) (fun _ i _=>n3 - (intOf i).toNat)
       case atStart=>exact ⟨0,_,Nat.zero_le _,rfl,rfl,HO3,HS3,HT3,HB23.out⟩
       case round =>
        obtain ⟨i3,v0,hi3,rfl,rfl,HO,HS,HT,hB4⟩:=hrel;have hsz4:=hB4.size;obtain ⟨a0,m0,c0,rfl⟩:=HO.out.shape;by_cases hl3:i3<n3
        · obtain ⟨b4,off4,rfl,hbW4,_⟩:=HS.out.form i3 hl3
          have f0:=HS.out.str i3 hl3;have hk3:i3<x.terms.length:=by rw [HXL.out];exact hl3
          have HStep:=hJ (kIH (l0:=l0) hk3)
          have hLen2:(addAll l0 ((kAL x).take i3)).length≤4000:=by
           have q1:=kBQ ((kAL x).take i3) l0;have q2:=HLen.out;rw [zN] at q1;omega
          clear hk3;generalize (kAL x).getD i3 default=y at *;generalize addAll l0 ((kAL x).take i3)=l1 at *;obtain ⟨w7,hfold7⟩:∃ q,wr.alloc (.cells #[.int .i64 1,.string y,.int .i64 0,.slice none 0 0,.string ⟨#[]⟩,.slice none 0 0,.string ⟨#[]⟩] 42)=q:=⟨_,rfl⟩
          have HB7:Hid (Below wr.heap.size wr w7):=hJ (by rw [← hfold7];exact (zB _ _).alloc (zR _) _);have HP7:Hid (Bx w7 wr.heap.size 42 [.int .i64 1,.string y,.int .i64 0,.slice none 0 0,.string ⟨#[]⟩,.slice none 0 0,.string ⟨#[]⟩]):=hJ (by rw [← hfold7];exact Bx.fresh _ _ _);have HW7:Hid (Calls _ _ _ _ _):=hJ (types_with (T:=fun q=>q=wr.heap.size) (HO.out.below HB7.out) (by have:=HB7.out.size;omega) [bare 1 y] (some ⟨wr.heap.size,0,none⟩) 1 1 (Sl.single (R:=RBnd) HP7.out ⟨_,_,rfl,⟨none,0,rfl,Sl.empty _ _ _⟩,⟨none,0,rfl,Sl.empty _ _ _⟩⟩ rfl) (fun q hq=>⟨by rw [hq];exact HP7.out.lt,fun e=>by have h1:=(HO.out.block e).2;omega⟩) (fun x hx=>by rw [List.mem_singleton.1 hx];rfl) (by omega));have hz7:=HB7.out.size
          go_wp2_with fail
          refine HW7.out.mono ?_;rintro e w8 ⟨⟨v8,rfl,hown8,hk8⟩,hb8⟩;have HK8:=hJ ((Kl.below HB7.out).trans hk8 hz7);have hz8:wr.heap.size≤w8.heap.size:=by have:=hb8.size;omega
          go_wp2_with fail
          go_roundw
          case rel=>exact ⟨i3+1,_,by omega,by go_num,rfl,hJ (by rw [HStep.out];exact hown8),hJ (HS.out.kl HT.out HK8.out),hJ (HT.out.kl HK8.out hz8),(hB4.trans (HB7.out.mono hsz4)).trans hb8⟩
          case measure=>simp [intOf];omega
        · have HEnd:Hid (addAll l0 ((kAL x).take i3)=addAll l0 (kAL x)):=hJ (by
           rw [zT];rw [HVL.out];omega)
          go_wp2_with fail
          go_roundw
          case rel=>exact ⟨j+1,_,by omega,by go_num,rfl,hJ (by rw [HNext.out,kCI,HL00.out,← HEnd.out];exact HO.out),hB4⟩
          case measure=>simp [intOf];omega
     · have HAll:Hid (s.wh.take j=s.wh):=hJ (zT (by rw [HM.out];omega))
       go_wp2_with fail
       go_ret;exact ⟨⟨_,rfl,by rw [HF.out];have:=HO.out.lower HW2.out.size;rwa [HAll.out] at this⟩,HW2.out.trans (hB2.mono HW2.out.size)⟩
def kF3 (l:List Bnd) (k:Nat):List Bnd:=(List.range k).map (kE9 l)++l.drop k
theorem renUp_zero (l:List Bnd):kF3 l 0=l:=rfl
theorem renUp_all (l:List Bnd):kF3 l l.length=ren l:=by
 unfold kF3 ren;rw [List.drop_length,List.append_nil]
theorem kDV {l:List Bnd} {k:Nat} (h:k≤l.length):(kF3 l k).length=l.length:=by
 unfold kF3;rw [zP,List.length_map,List.length_range,List.length_drop];omega
theorem renUp_at {l:List Bnd} {k:Nat} (h:k<l.length):(kF3 l k)[k]? =some (l.getD k default):=by
 unfold kF3;rw [List.getElem?_append_right (by rw [List.length_map,List.length_range];exact zR _),List.length_map,List.length_range,Nat.sub_self,List.getElem?_drop,Nat.add_zero];exact kFA h
theorem renUp_next {l:List Bnd} {k:Nat} (h:k<l.length):kF3 l (k+1)=(kF3 l k).set k (kE9 l k):=by
 unfold kF3;rw [List.range_succ,List.map_append,List.append_assoc,List.set_append_right _ _ (by rw [List.length_map,List.length_range];exact zR _),List.length_map,List.length_range,Nat.sub_self]
 congr 1
 rw [List.drop_eq_getElem_cons h,List.set_cons_zero];rfl
theorem ren_take {l:List Bnd} {k:Nat} (h:k<l.length):(ren l).take (k+1)=(ren l).take k++[kE9 l k]:=by
 have:=kAU (l:=ren l) (k:=k) (by rw [kGT];exact h);rw [this,ren_at h]
theorem cnt_next {l:List Bnd} {k:Nat} (h:k<l.length) (q:Int):cntK q (l.take (k+1))=cntK q (l.take k)+if (l.getD k default).kind=q then 1 else 0:=by
 unfold cntK;rw [kAU h,List.countP_append]
 congr 1
 generalize l.getD k default=x at *;by_cases e:x.kind=q
 · rw [if_pos e];simp [e]
 · rw [if_neg e];simp [e]
def cntV (l:List Bnd) (k:Nat):List Value:=[.int .i64 0,.int .i64 (cntK 1 (l.take k)),.int .i64 (cntK 2 (l.take k)),.int .i64 (cntK 3 (l.take k))]
theorem kJB {l:List Bnd} (hl:l.length≤3000) (q:Int) (k:Nat):cntK q (l.take k)≤3000:=by
 have:=cnt_le q (l.take k);rw [zN] at this;omega
structure RenAt1 (l:List Bnd) (k:Nat) (x:Bnd):Prop where
 at1:x.kind=1→kE9 l k=⟨1,x.v,varL (nm 110 (cntK 1 (l.take k)+1)),⟨⟨#[]⟩,[]⟩,⟨#[]⟩⟩∧cntV l (k+1)=(cntV l k).set 1 (.int .i64 ((cntK 1 (l.take k):Int)+1))
 at2:x.kind=2→kE9 l k=⟨2,x.v,⟨0,[]⟩,⟨nm 114 (cntK 2 (l.take k)+1),[]⟩,⟨#[]⟩⟩∧cntV l (k+1)=(cntV l k).set 2 (.int .i64 ((cntK 2 (l.take k):Int)+1))
 at3:x.kind=3→kE9 l k=⟨3,x.v,⟨0,[]⟩,⟨⟨#[]⟩,[]⟩,nm 65 (cntK 3 (l.take k)+1)⟩∧cntV l (k+1)=(cntV l k).set 3 (.int .i64 ((cntK 3 (l.take k):Int)+1))
theorem renAt1 {l:List Bnd} {k:Nat} (h:k<l.length) (hb:(l.getD k default)=bare (l.getD k default).kind (l.getD k default).v):RenAt1 l k (l.getD k default):=by
 have hc:=fun q=>cnt_next h q
 have hr:kE9 l k=renB (cntK (l.getD k default).kind (l.take (k+1))) (l.getD k default):=rfl;generalize l.getD k default=x at *;refine ⟨fun e=>?_,fun e=>?_,fun e=>?_⟩
 · rw [e] at hr hb
   have c1:=hc 1;have c2:=hc 2;have c3:=hc 3;rw [e,if_pos rfl] at c1;rw [e,if_neg (by decide)] at c2 c3;refine ⟨?_,?_⟩
   · rw [hr,c1,hb];rfl
   · unfold cntV;rw [c1,c2,c3];rfl
 · rw [e] at hr hb
   have c1:=hc 1;have c2:=hc 2;have c3:=hc 3;rw [e,if_pos rfl] at c2;rw [e,if_neg (by decide)] at c1 c3;refine ⟨?_,?_⟩
   · rw [hr,c2,hb];rfl
   · unfold cntV;rw [c1,c2,c3];rfl
 · rw [e] at hr hb
   have c1:=hc 1;have c2:=hc 2;have c3:=hc 3;rw [e,if_pos rfl] at c3;rw [e,if_neg (by decide)] at c1 c2;refine ⟨?_,?_⟩
   · rw [hr,c3,hb];rfl
   · unfold cntV;rw [c1,c2,c3];rfl
def digs (n:Nat):List UInt8:=if n=0 then [] else Lib.decDigits n
theorem digs_pos {n:Nat} (h:0<n):digs n=digs (n / 10)++[UInt8.ofNat (48+n % 10)]:=by
 unfold digs;rw [if_neg (by omega),Lib.decDigits];by_cases h9:n<10
 · rw [dif_pos h9,if_pos (by omega),Nat.mod_eq_of_lt h9];rfl
 · rw [dif_neg h9,if_neg (by omega)]
theorem conv_one (w:World) (g:Nat) (c:Int) (h0:0≤c) (h1:c≤255) (h:w.cell? ⟨g,0,none⟩=some (.int .u8 c)):(convert 169 9 (.slice (some ⟨g,0,none⟩) 1 1)).run Tryz.prog w= .ok (.string ⟨#[UInt8.ofNat c.toNat]⟩) w:=by
 rw [run_convert_bytes_string w 169 9 5 (some ⟨g,0,none⟩) 1 1 underlying169 underlying5 underlying9];rw [run_bytesToString w ⟨g,0,none⟩ 1 1 [c]]
 · rfl
 · refine run_loadCells_list _ _ [.int .u8 c] ?_
   intro j v hj;cases j with
   | zero=>simp at hj;subst hj;exact h
   | succ j=>simp at hj
def decS (n:Nat):Str:=⟨(Lib.decDigits n).toArray⟩
theorem kF4 (n:Nat) (h1:1≤n) (hn:n≤100000) (w:World) :
 Calls Tryz.prog 84 #[.int .i64 n] w fun e w'=>e= .returned (.string (decS n))∧Below w.heap.size w w':=by
 go_enter func84,ntmps84
 go_wp2_with fail
 go_loopw [0,3] (fun i sv wr=>∃ (m:Nat) (s:Str),m≤n∧i= .int .i64 m∧sv= .string s∧Hid (digs n=digs m++s.data.toList)∧Below w.heap.size w wr) (fun i _ _=>(intOf i).toNat)
 case atStart=>exact ⟨n,_,zR _,rfl,rfl,hJ (by simp),zB _ _⟩
 case round =>
  obtain ⟨m,s,hm,rfl,rfl,HD,hB⟩:=hrel;by_cases hlt:0<m
  · have HP:=hJ (digs_pos hlt)
    have hs:s.size≤6:=by
     have h1:(digs n).length≤6:=by unfold digs;rw [if_neg (by omega)];exact kGF 5 n (by omega)
     rw [HD.out,zP] at h1;have h2:s.data.toList.length=s.size:=rfl;omega
    have hml:(0:Int)<(m:Int):=by omega
    have hm0:(0:Int)≤(m:Int):=by omega
    have hd:(0:Int)≤(m:Int) % 10:=by omega
    have hd2:(m:Int) % 10<10:=by omega
    have hcv:=conv_one (wr.alloc (.cells #[.int .u8 (48+(m:Int) % 10)] 5)) wr.heap.size (48+(m:Int) % 10) (by omega) (by omega) (by simp [go_sem])
    go_wp2_with fail
    go_roundw
    case rel=>exact ⟨m / 10,_,by omega,by go_num,rfl,hJ (by rw [HD.out,HP.out,UInt8.ofNat_add];simp),hB.alloc hB.size _⟩
    case measure=>simp [intOf];omega
  · obtain rfl:m=0:=by omega
    go_wp2_with fail
    go_ret;have h:digs n=s.data.toList:=by have:=HD.out;rwa [show digs 0=[] from rfl,List.nil_append] at this
    unfold digs at h;rw [if_neg (by omega)] at h;refine ⟨?_,hB⟩;unfold decS;rw [h];rfl
theorem kHI {S:Blk} {s:Sch} {cs:List Value} {w:World} (h:RSch.rd S w cs s) (hv:kAI s=true) :
 Calls Tryz.prog 10 #[.agg cs.toArray] w fun e w'=>(∃ v,e= .returned v∧Own RBnd 42 (fun _=>False) w' w.heap.size v (kAG s))∧Below w.heap.size w w':=by
 have hsp:=kAO hv;have hpl12:s.params.length≤1000000:=by have:=hsp.1;omega
 have HV:Hid (∀ W,Below w.heap.size w W→Calls Tryz.prog 30 #[.agg cs.toArray] W fun e w'=>e= .returned (.bool true)∧Below W.heap.size W w') :=
  hJ (fun W hW=>hv ▸ kDJ (RSch.below h hW) (kGS hv) hpl12)
 have HCA:Hid (∀ W,Below w.heap.size w W→Calls Tryz.prog 17 #[.agg cs.toArray] W fun e w'=>(∃ v,e= .returned v∧Own RTyp 27 (fun k=>S k∧k<w.heap.size) w' W.heap.size v (allT s))∧Below W.heap.size W w') :=
  hJ (fun W hW=>kFN (RSch.below (RSch.mono h (fun k hk hlt=>⟨hk,hlt⟩)) hW) hpl12)
 have HAV:=hJ (kBV hv);have HWV:=hJ hsp.2.2.2.2;have hpl:=hsp.1;have hwl:=hsp.2.1;have HF:Hid (kAG s=addAll (kBE (allT s)) (s.wh.flatMap kAL)):=hJ (by unfold kAG;rw [hv];rfl);obtain ⟨p,t,q,rfl,⟨ap,cp,rfl,hp⟩,⟨at_,ct,rfl,ht⟩,⟨aq,cq,rfl,hq⟩⟩:=h;have HQ:=hJ hq;have hAl:(allT s).length=s.params.length+1:=by unfold allT;rw [zP];rfl
 clear hp ht hq hsp hv;generalize hn:s.params.length=n at *;generalize hm:s.wh.length=m at *;have HN:=hJ hn;have HM:=hJ hm;have HAl:=hJ hAl;clear hn hm hAl;obtain ⟨B0,ya,hW0⟩:=box1 w 29 [.slice ap n cp,.string s.result.elem,.string s.result.shape.row,.slice at_ s.result.shape.dims.length ct,.slice aq m cq];have xa0:=box0 ya 0 _ rfl;have xa1:=box0 ya 1 _ rfl;have xa2:=box0 ya 2 _ rfl;have xa3:=box0 ya 3 _ rfl;have xa4:=box0 ya 4 _ rfl;have bka:Bx _ _ _ _:=ya;clear ya;have HBk:=hJ bka;clear bka;go_enter func10,ntmps10
 go_wp2_with fail
 refine (HV.out _ B0.out).mono ?_;rintro e w1 ⟨rfl,hb⟩;have HB1:=hJ (HBk.out.below hb (by simp));have y0:=HB1.out.cell 0 _ rfl;have y1:=HB1.out.cell 1 _ rfl;have y2:=HB1.out.cell 2 _ rfl;have y3:=HB1.out.cell 3 _ rfl;have y4:=HB1.out.cell 4 _ rfl;have hl1:=HB1.out.lt;have HW:=hJ (B0.out.trans (hb.mono B0.out.size));clear xa0 xa1 xa2 xa3 xa4 hb
 go_wp2_with fail
 refine (HCA.out w1 HW.out).mono ?_;rintro e w2 ⟨⟨v,rfl,hown⟩,hb2⟩;obtain ⟨al,cl,rfl,hsl⟩:=hown.sl;rw [HAl.out] at hsl ⊢;have HLs:=hJ hsl;have hz2:=hb2.size;have HG2:=hJ (HB1.out.below hb2 hl1);have HW2:=hJ (HW.out.trans (hb2.mono HW.out.size));have HQ2:=hJ (HQ.out.below HW2.out);clear hown hsl hb2 y0 y1 y2 y3 y4
 go_wp2_with fail
 go_loopw [3,5] (fun v i wr=>∃ (k:Nat) (v0:Value),k≤n+1∧i= .int .i64 k∧v0=v∧Hid (Own RBnd 42 (fun _=>False) wr w2.heap.size v (kBE ((allT s).take k)))∧Below w2.heap.size w2 wr) (fun _ i _=>n+1 - (intOf i).toNat)
 case atStart=>exact ⟨0,_,Nat.zero_le _,rfl,rfl,hJ (Own.nil _ _ _ _ _),zB _ _⟩
 case round =>
  obtain ⟨k,v0,hk,rfl,rfl,HO,hB⟩:=hrel;have hsz:=hB.size;obtain ⟨a0,m0,c0,rfl⟩:=HO.out.shape;by_cases hlt:k<n+1
  · obtain ⟨b,off,rfl,hbW,_⟩:=HLs.out.form k hlt
    have hkl:k<(allT s).length:=by rw [HAl.out];exact hlt
    obtain ⟨t,hr,⟨ax,cx,rfl,hts⟩,e0,e1,e2⟩:=(HLs.out.below hB).typ k hlt;have HXv:=hJ (HAV.out _ (kAM hkl));have HNext:=hJ (varsAll_next hkl)
    have HLen:Hid ((kBE ((allT s).take k)).length≤2000):=hJ (by
     have q1:=kEI ((allT s).take k);rw [zN] at q1;omega)
    clear hkl;generalize (allT s).getD k default=x at *;have HCx:=hJ (ref12_TypeVars hr (typ_sz HXv.out));have HVl:=hJ (varsTy_len x);clear hr hts
    go_wp2_with fail
    refine HCx.out.mono ?_;rintro e w3 ⟨⟨v3,rfl,hown3⟩,hb3⟩;obtain ⟨a3,c3,rfl,hs3,hA3⟩:=hown3.self;have hz3:=hb3.size;have HT3:Hid (Apart (At a3) w3 (.slice a0 m0 c0)):=hJ (fun q hq=>⟨(hA3 q hq).2,fun e=>by have h1:=(HO.out.block e).2;have h2:=(hA3 q hq).1;omega⟩);have HS3:=hJ hs3;have HO3:=hJ (HO.out.below hb3);have HB3:=hJ (hB.trans (hb3.mono hsz));clear hown3 hs3 hA3 hb3 HCx HO e0 e1 e2;generalize kBN x=vs at *;generalize kBE ((allT s).take k)=l0 at *;generalize hvl:vs.length=m3 at *;have HVL:=hJ hvl;clear hvl;have hm3:m3≤101:=HVl.out
    go_wp2_with fail
    go_loopw [3,7] (fun v i wr=>∃ (j:Nat) (v0:Value),j≤m3∧i= .int .i64 j∧v0=v∧Hid (Own RBnd 42 (fun _=>False) wr w2.heap.size v (addBs l0 (vs.take j)))∧Hid (Sl RBnd (At a3) wr a3 m3 c3 vs)∧Hid (Apart (At a3) wr v)∧Below w2.heap.size w2 wr) (fun _ i _=>m3 - (intOf i).toNat)
    case atStart=>exact ⟨0,_,Nat.zero_le _,rfl,rfl,HO3,HS3,HT3,HB3.out⟩
    case round =>
     obtain ⟨j,v0,hj,rfl,rfl,HO,HS,HT,hB4⟩:=hrel;have hsz4:=hB4.size;obtain ⟨a0,m0,c0,rfl⟩:=HO.out.shape;by_cases hlj:j<m3
     · obtain ⟨b4,off4,rfl,hbW4,_⟩:=HS.out.form j hlj
       obtain ⟨t,d,hr,hd,f0,f1,f2,f3,f4,f5,f6⟩:=HS.out.bnd j hlj;have hk3:j<vs.length:=by rw [HVL.out];exact hlj
       have HStep:=hJ (addBs_next (l0:=l0) hk3)
       have hLen2:(addBs l0 (vs.take j)).length≤1000000:=by
        have q1:=addBs_len (vs.take j) l0;have q2:=HLen.out;rw [zN] at q1;omega
       have HAdd:Hid (Calls _ _ _ wr.drew _):=hJ (kIW HO.out.drew (by exact hsz4) hLen2 (vs.getD j default).kind (vs.getD j default).v);clear hk3 hr hd f2 f3 f4 f5 f6;generalize vs.getD j default=y at *
       go_wp2_with fail
       go_still_tail 11,(by kernel_rfl)
       change wpList _ _ _ _ _ wr.drew
       go_wp2_with fail
       refine HAdd.out.mono ?_;rintro e w8 ⟨⟨v8,rfl,hown8,hk8⟩,hb8⟩;have hk8:Kl (.slice a0 m0 c0) v8 wr w8:=⟨hk8.block,hk8.own⟩
       have hb8:Below w2.heap.size wr w8:=((zB _ _).drew).trans hb8;have hz8:=hb8.size
       go_wp2_with fail
       go_roundw
       case rel=>exact ⟨j+1,_,by omega,by go_num,rfl,hJ (by rw [HStep.out];exact hown8),hJ (HS.out.kl HT.out hk8),hJ (HT.out.kl hk8 hz8),hB4.trans hb8⟩
       case measure=>simp [intOf];omega
     · have HEnd:Hid (addBs l0 (vs.take j)=addBs l0 vs):=hJ (by
        rw [zT];rw [HVL.out];omega)
       go_wp2_with fail
       go_roundw
       case rel=>exact ⟨k+1,_,by omega,by go_num,rfl,hJ (by rw [HNext.out,← HEnd.out];exact HO.out),hB4⟩
       case measure=>simp [intOf];omega
  · have HAll:Hid (kBE ((allT s).take k)=kBE (allT s)):=hJ (by rw [zT (by rw [HAl.out];omega)])
    have HO0:=hJ (HAll.out ▸ HO.out)
    have HL0:Hid ((kBE (allT s)).length≤2000):=hJ (by
     have q1:=kEI (allT s);rw [HAl.out] at q1;omega)
    clear HO HAll
    go_wp2_with fail
    go_loopw [3,8] (fun v i wr=>∃ (j:Nat) (v0:Value),j≤m∧i= .int .i64 j∧v0=v∧Hid (Own RBnd 42 (fun _=>False) wr w2.heap.size v (addAll (kBE (allT s)) ((s.wh.take j).flatMap kAL)))∧Below w2.heap.size w2 wr) (fun _ i _=>m - (intOf i).toNat)
    case atStart=>exact ⟨0,_,Nat.zero_le _,rfl,rfl,HO0,hB⟩
    case round =>
     obtain ⟨j,v0,hj,rfl,rfl,HO,hB2⟩:=hrel;have hsz2:=hB2.size;obtain ⟨a0,m0,c0,rfl⟩:=HO.out.shape;have HG4:=hJ (HG2.out.below hB2 (by have:=HG2.out.lt;omega));have g4:=HG4.out.cell 4 _ rfl;by_cases hlj:j<m
     · obtain ⟨b2,off2,rfl,hbW2,_⟩:=HQ2.out.form j hlj
       have hjl:j<s.wh.length:=by rw [HM.out];exact hlj
       obtain ⟨t,hr,⟨ax,cx,rfl,hts⟩,e0,e1⟩:=HQ2.out.lin j hlj;have hxv:=HWV.out _ (kAM hjl);have HX:=hJ (kBW hxv);have HNext:Hid ((s.wh.take (j+1)).flatMap kAL=(s.wh.take j).flatMap kAL++kAL (s.wh.getD j default)):=hJ (by rw [kAU hjl,List.flatMap_append];simp)
       have HLen:Hid ((addAll (kBE (allT s)) ((s.wh.take j).flatMap kAL)).length≤3000):=hJ (by
        have q1:=kBQ ((s.wh.take j).flatMap kAL) (kBE (allT s));have q2:=HL0.out;have q3:=kE2 (s.wh.take j) (fun x hx=>HWV.out x (List.mem_of_mem_take hx));rw [zN] at q3;omega)
       have HT2:=hJ hts;have hmt:=hts.small;have E1:=hJ (kAE e1);clear hjl hxv hr hts e0 e1;generalize s.wh.getD j default=x at *;generalize hl0:addAll (kBE (allT s)) ((s.wh.take j).flatMap kAL)=l0 at *;have HL00:=hJ hl0;clear hl0;have hvl:(kAL x).length=x.terms.length:=by unfold kAL;rw [List.length_map]
       have HVL:=hJ hvl;clear hvl;generalize hxl:x.terms.length=n3 at *;have HXL:=hJ hxl;clear hxl;have hn3:n3≤12:=by have:=HX.out;omega
       have e1:=E1.out _ hB2
       go_wp2_with fail
       go_loopw [3,9] (fun v i wr=>∃ (i3:Nat) (v0:Value),i3≤n3∧i= .int .i64 i3∧v0=v∧Hid (Own RBnd 42 (fun _=>False) wr w2.heap.size v (addAll l0 ((kAL x).take i3)))∧Below w2.heap.size w2 wr) (fun _ i _=>n3 - (intOf i).toNat)
       case atStart=>exact ⟨0,_,Nat.zero_le _,rfl,rfl,HO,hB2⟩
       case round =>
        obtain ⟨i3,v0,hi3,rfl,rfl,HO,hB4⟩:=hrel;have hsz4:=hB4.size;obtain ⟨a0,m0,c0,rfl⟩:=HO.out.shape;have HG5:=hJ (HG2.out.below hB4 (by have:=HG2.out.lt;omega));have g5:=HG5.out.cell 4 _ rfl;have d1:=E1.out _ hB4;by_cases hl3:i3<n3
        · obtain ⟨b4,off4,rfl,hbW4,_⟩:=HT2.out.form i3 hl3
          obtain ⟨f0,f1⟩:=(HT2.out.below hB4).coef i3 hl3;have hk3:i3<x.terms.length:=by rw [HXL.out];exact hl3
          have HStep:Hid (addAll l0 ((kAL x).take (i3+1))=addV (addAll l0 ((kAL x).take i3)) 1 (x.terms.getD i3 default).v):=hJ (by
           unfold kAL;rw [← List.map_take,← List.map_take,kAU hk3,List.map_append,kCI];rfl)
          have hLen2:(addAll l0 ((kAL x).take i3)).length≤1000000:=by
           have q1:=kBQ ((kAL x).take i3) l0;have q2:=HLen.out;rw [zN] at q1;omega
          clear hk3;have HAdd:Hid (Calls _ _ _ _ _):=hJ (kIW HO.out hsz4 hLen2 1 (x.terms.getD i3 default).v);generalize x.terms.getD i3 default=y at *;generalize addAll l0 ((kAL x).take i3)=l1 at *
          go_wp2_with fail
          refine HAdd.out.mono ?_;rintro e w8 ⟨⟨v8,rfl,hown8,hk8⟩,hb8⟩
          go_wp2_with fail
          go_roundw
          case rel=>exact ⟨i3+1,_,by omega,by go_num,rfl,hJ (by rw [HStep.out];exact hown8),hB4.trans hb8⟩
          case measure=>simp [intOf];omega
        · have HEnd:Hid (addAll l0 ((kAL x).take i3)=addAll l0 (kAL x)):=hJ (by
           rw [zT];rw [HVL.out];omega)
          go_wp2_with fail
          go_roundw
          case rel=>exact ⟨j+1,_,by omega,by go_num,rfl,hJ (by rw [HNext.out,kCI,HL00.out,← HEnd.out];exact HO.out),hB4⟩
          case measure=>simp [intOf];omega
     · have HAll:Hid (s.wh.take j=s.wh):=hJ (zT (by rw [HM.out];omega))
       go_wp2_with fail
       go_ret;exact ⟨⟨_,rfl,by rw [HF.out];have:=HO.out.lower HW2.out.size;rwa [HAll.out] at this⟩,HW2.out.trans (hB2.mono HW2.out.size)⟩
theorem Own.cut {α :Type} {R:Rep α} {E:TypeId} {S:Blk} {w:World} {base:Nat} {v:Value} {l:List α} (h:Own R E S w base v l):Own R E (fun q=>S q∧q<w.heap.size) w base v l:=h.mono fun k hk hlt=>⟨hk,hlt⟩
theorem Sl.zero {α :Type} {R:Rep α} {S:Blk} {w:World} {a:Option Addr} {c:Nat} (hm:c≤maxLen) (hn:a=none→c=0):Sl R S w a 0 c []:=⟨rfl,Nat.zero_le _,hm,hn,fun i x h=>by simp at h⟩
theorem cntV_zero (l:List Bnd):cntV l 0=[.int .i64 0,.int .i64 0,.int .i64 0,.int .i64 0]:=by
 unfold cntV cntK;rfl
theorem ref12_Renaming {S:Blk} {s:Sch} {cs:List Value} {w:World} (h:RSch.rd S w cs s) (hv:kAI s=true) :
 Calls Tryz.prog 32 #[.agg cs.toArray] w fun e w'=>(∃ v,e= .returned v∧Own RBnd 42 (fun q=>w.heap.size≤q) w' w.heap.size v (ren (kAG s)))∧Below w.heap.size w w':=by
 have HCV:Hid (∀ W,Below w.heap.size w W→Calls Tryz.prog 10 #[.agg cs.toArray] W fun e w'=>(∃ v,e= .returned v∧Own RBnd 42 (fun _=>False) w' W.heap.size v (kAG s))∧Below W.heap.size W w') :=
  hJ (fun W hW=>kHI (RSch.below h hW) hv)
 have HInv:=hJ (kA5 hv);have HLen:=hJ (kB3 (s:=s));obtain ⟨p,t,q,rfl,⟨ap,cp,rfl,hp⟩,⟨at_,ct,rfl,ht⟩,⟨aq,cq,rfl,hq⟩⟩:=h;clear hp ht hq hv;generalize kAG s=L at *;obtain ⟨B0,ya,hW0⟩:=box1 w 29 [.slice ap s.params.length cp,.string s.result.elem,.string s.result.shape.row,.slice at_ s.result.shape.dims.length ct,.slice aq s.wh.length cq];have xa0:=box0 ya 0 _ rfl;have xa1:=box0 ya 1 _ rfl;have xa2:=box0 ya 2 _ rfl;have xa3:=box0 ya 3 _ rfl;have xa4:=box0 ya 4 _ rfl;have bka:Bx _ _ _ _:=ya;clear ya;have HB1:Hid (Below w.heap.size w ((w.alloc (.cells #[.slice ap s.params.length cp,.string s.result.elem,.string s.result.shape.row,.slice at_ s.result.shape.dims.length ct,.slice aq s.wh.length cq] 29)).alloc (.cells #[.int .i64 0,.int .i64 0,.int .i64 0,.int .i64 0] 55))):=hJ (B0.out.alloc (by simp) _)
 have HG1:Hid (Bx ((w.alloc (.cells #[.slice ap s.params.length cp,.string s.result.elem,.string s.result.shape.row,.slice at_ s.result.shape.dims.length ct,.slice aq s.wh.length cq] 29)).alloc (.cells #[.int .i64 0,.int .i64 0,.int .i64 0,.int .i64 0] 55)) (w.heap.size+1) 55 [.int .i64 0,.int .i64 0,.int .i64 0,.int .i64 0]):=hJ (by
  have:=Bx.fresh (w.alloc (.cells #[.slice ap s.params.length cp,.string s.result.elem,.string s.result.shape.row,.slice at_ s.result.shape.dims.length ct,.slice aq s.wh.length cq] 29)) 55 [.int .i64 0,.int .i64 0,.int .i64 0,.int .i64 0]
  simpa using this)
 clear bka;go_enter func32,ntmps32
 go_wp2_with fail
 refine (HCV.out _ HB1.out).mono ?_;rintro e w2 ⟨⟨v,rfl,hown⟩,hb2⟩;obtain ⟨a5,c5,rfl,hs5,hA5⟩:=hown.self;have HS5:=hJ hs5;have HA5:Hid (∀ q,At a5 q→w.heap.size+2≤q∧q<w2.heap.size):=hJ (fun q hq=>by have:=hA5 q hq;simpa using this);have HG2:Hid (Bx w2 (w.heap.size+1) 55 (cntV L 0)):=hJ (by rw [cntV_zero];exact HG1.out.below hb2 (by simp));have HW2:=hJ (HB1.out.trans (hb2.mono HB1.out.size));have hz2:w.heap.size+2≤w2.heap.size:=by have:=hb2.size;simpa using this
 clear hown hs5 hA5 hb2 xa0 xa1 xa2 xa3 xa4 HB1 HG1 B0 HCV hW0;generalize hn:L.length=n at *;have HN:=hJ hn;clear hn;have hn3:n≤3000:=by have:=HLen.out;omega
 go_wp2_with fail
 go_loopw [3,6] (fun v i wr=>∃ (k:Nat) (v0:Value),k≤n∧i= .int .i64 k∧v0=v∧Hid (Own RBnd 42 (fun q=>w2.heap.size≤q) wr w2.heap.size v ((ren L).take k))∧Hid (Bx wr (w.heap.size+1) 55 (cntV L k))∧Hid (∀ q,q<w2.heap.size→q≠w.heap.size+1→wr.heap[q]? =w2.heap[q]?)∧Below w.heap.size w wr∧w2.heap.size≤wr.heap.size) (fun _ i _=>n - (intOf i).toNat)
 case atStart=>exact ⟨0,_,Nat.zero_le _,rfl,rfl,hJ (Own.nil _ _ _ _ _),HG2,hJ (fun _ _ _=>rfl),HW2.out,zR _⟩
 case round =>
  obtain ⟨k,v0,hk,rfl,rfl,HO,HG,HK,hB,hsz⟩:=hrel;obtain ⟨a0,m0,c0,rfl⟩:=HO.out.shape;by_cases hlt:k<n
  · have HSr:=hJ (HS5.out.frame (w':=wr) (fun q hq hlt=>HK.out q hlt (by have:=(HA5.out q hq).1;omega)))
    obtain ⟨b,off,rfl,hbW,_⟩:=HSr.out.form k hlt;obtain ⟨t,d,hr,⟨⟨ta,tc,rfl,hta⟩,⟨da,dc,rfl,hda⟩⟩,e0,e1,e2,e3,e4,e5,e6⟩:=HSr.out.bnd k hlt;have hkl:k<L.length:=by rw [HN.out];exact hlt
    have HGood:=hJ (HInv.out.good _ (kAM hkl));have HRen:=hJ (renAt1 hkl HGood.out.1);have HNext:=hJ (ren_take hkl);have HLk:Hid (((ren L).take k).length≤3000):=hJ (by rw [zN,kGT,HN.out];omega);have hL3:L.length≤3000:=by rw [HN.out];exact hn3
    have hc1:=kJB hL3 1 k;have hc2:=kJB hL3 2 k;have hc3:=kJB hL3 3 k;clear hL3;have HCV0:Hid (cntV L k=[.int .i64 0,.int .i64 (cntK 1 (L.take k)),.int .i64 (cntK 2 (L.take k)),.int .i64 (cntK 3 (L.take k))]):=hJ rfl;obtain ⟨kd,nv,hx⟩:∃ kd nv,L.getD k default=⟨kd,nv,⟨0,[]⟩,⟨⟨#[]⟩,[]⟩,⟨#[]⟩⟩:=⟨_,_,HGood.out.1⟩
    rw [hx] at HRen HGood;simp only [hx,List.length_nil] at e0 e1 e2 e3 e4 e5 e6;have hok:=HGood.out.2;have HTa:Hid (tc≤maxLen∧(ta=none→tc=0)):=hJ ⟨hta.max,hta.nil⟩;have HDa:Hid (dc≤maxLen∧(da=none→dc=0)):=hJ ⟨hda.max,hda.nil⟩;clear hx hkl hr HGood hta hda;obtain ⟨n1,hn1⟩:∃ q,cntK 1 (L.take k)=q:=⟨_,rfl⟩
    obtain ⟨n2,hn2⟩:∃ q,cntK 2 (L.take k)=q:=⟨_,rfl⟩
    obtain ⟨n3,hn3'⟩:∃ q,cntK 3 (L.take k)=q:=⟨_,rfl⟩
    have HCe:Hid (cntK 1 (L.take k)=n1∧cntK 2 (L.take k)=n2∧cntK 3 (L.take k)=n3):=hJ ⟨hn1,hn2,hn3'⟩;rw [hn1] at hc1;rw [hn2] at hc2;rw [hn3'] at hc3;rw [hn1,hn2,hn3'] at HCV0;clear hn1 hn2 hn3';have HGq:=hJ (HCV0.out ▸ HG.out);obtain ⟨y,hy⟩:∃ y,kE9 L k=y:=⟨_,rfl⟩
    have HYe:=hJ hy;rw [hy] at HNext;clear hy;generalize (ren L).take k=lk at *;rcases hok with ⟨hok,hnm⟩ | ⟨hok,hnm⟩ | ⟨hok,hnm⟩
    · skip
      have hkd:kd=1:=hok;subst hkd;have HR1:=hJ (HRen.out.at1 rfl);rw [HCe.out.1] at HR1;clear HRen;have HP:=hJ (Bx.fresh wr 42 [.int .i64 1,.string nv,.int .i64 0,.slice ta 0 tc,.string ⟨#[]⟩,.slice da 0 dc,.string ⟨#[]⟩]);have HGa:=hJ (HGq.out.alloc (.cells #[.int .i64 1,.string nv,.int .i64 0,.slice ta 0 tc,.string ⟨#[]⟩,.slice da 0 dc,.string ⟨#[]⟩] 42));have p0:=HP.out.cell 0 _ rfl;have g1:=HGa.out.cell 1 _ rfl;have v1:=HGa.out.fz 1;have HG1:=hJ (HGa.out.set 1 (.int .i64 ((n1:Int)+1)));have h1:=HG1.out.cell 1 _ rfl;have HP1:Hid (Bx ((wr.alloc (.cells #[.int .i64 1,.string nv,.int .i64 0,.slice ta 0 tc,.string ⟨#[]⟩,.slice da 0 dc,.string ⟨#[]⟩] 42)).setCell ⟨w.heap.size+1,1,none⟩ (.int .i64 ((n1:Int)+1))) wr.heap.size 42 [.int .i64 1,.string nv,.int .i64 0,.slice ta 0 tc,.string ⟨#[]⟩,.slice da 0 dc,.string ⟨#[]⟩]):=hJ (HP.out.other (by show w.heap.size+1≠_;omega));have HKb:Hid (∀ q,q<wr.heap.size→q≠w.heap.size+1→((wr.alloc (.cells #[.int .i64 1,.string nv,.int .i64 0,.slice ta 0 tc,.string ⟨#[]⟩,.slice da 0 dc,.string ⟨#[]⟩] 42)).setCell ⟨w.heap.size+1,1,none⟩ (.int .i64 ((n1:Int)+1))).heap[q]? =wr.heap[q]?):=hJ (fun q hq hne=>(kAA (fun e=>hne e.symm)).trans (Below.heap_alloc _ _ _ hq));have HBb:Hid (Below w.heap.size w ((wr.alloc (.cells #[.int .i64 1,.string nv,.int .i64 0,.slice ta 0 tc,.string ⟨#[]⟩,.slice da 0 dc,.string ⟨#[]⟩] 42)).setCell ⟨w.heap.size+1,1,none⟩ (.int .i64 ((n1:Int)+1)))):=hJ ((hB.alloc hB.size _).setCell (by simp) _);have hzb:((wr.alloc (.cells #[.int .i64 1,.string nv,.int .i64 0,.slice ta 0 tc,.string ⟨#[]⟩,.slice da 0 dc,.string ⟨#[]⟩] 42)).setCell ⟨w.heap.size+1,1,none⟩ (.int .i64 ((n1:Int)+1))).heap.size=wr.heap.size+1:=by simp
      have HZb:=hJ hzb;clear hzb;have r0:=HP1.out.cell 0 _ rfl;have HCd:=hJ (kF4 (n1+1) (by omega) (by omega) ((wr.alloc (.cells #[.int .i64 1,.string nv,.int .i64 0,.slice ta 0 tc,.string ⟨#[]⟩,.slice da 0 dc,.string ⟨#[]⟩] 42)).setCell ⟨w.heap.size+1,1,none⟩ (.int .i64 ((n1:Int)+1))));rw [Int.natCast_add,Int.natCast_one] at HCd;clear HGa HP
      go_wp2_with fail
      refine HCd.out.mono ?_;rintro e w4 ⟨rfl,hb4⟩;clear HCd;have hz4:wr.heap.size+1≤w4.heap.size:=by have:=hb4.size;rw [HZb.out] at this;exact this
      have HP4:=hJ (HP1.out.below hb4 (by rw [HZb.out];omega));have HG4:=hJ (HG1.out.below hb4 (by rw [HZb.out];omega));have HK4:Hid (∀ q,q<wr.heap.size→q≠w.heap.size+1→w4.heap[q]? =wr.heap[q]?):=hJ (fun q hq hne=>(hb4.block q (by rw [HZb.out];omega)).trans (HKb.out q hq hne));have HB4:=hJ (HBb.out.trans (hb4.mono (by rw [HZb.out];omega)));have s0:=HP4.out.cell 0 _ rfl;have s1:=HP4.out.cell 1 _ rfl;have s2:=HP4.out.cell 2 _ rfl;have s3:=HP4.out.cell 3 _ rfl;have s4:=HP4.out.cell 4 _ rfl;have s5:=HP4.out.cell 5 _ rfl;have s6:=HP4.out.cell 6 _ rfl;have v4:=HP4.out.fz;clear HKb HBb HP1 HG1 hb4 r0 h1 g1 v1 p0 HZb e0 e1 e2 e3 e4 e5 e6
      have hds:(decS (n1+1)).size≤6:=by
       show (Lib.decDigits (n1+1)).length≤6
       exact kGF 5 _ (by omega)
      have HNm:Hid (∀ c:UInt8,(⟨#[c]⟩:Str)++decS (n1+1)=nm c (n1+1)):=hJ (fun c=>rfl);generalize decS (n1+1)=dd at *;have HOc:=hJ HO.out.cut;have HPc:=hJ (HP4.out.alloc (.cells #[.string ((⟨#[110]⟩:Str)++dd),.int .i64 1] 44));have vc2:=HPc.out.fz 2;have c2:=HPc.out.cell 2 _ rfl;have HPd1:=hJ (HPc.out.set 2 (.int .i64 0));have vd3:=HPd1.out.fz 3;have d3:=HPd1.out.cell 3 _ rfl;have HPd:=hJ (HPd1.out.set 3 (.slice (some ⟨w4.heap.size,0,none⟩) 1 1));have q0:=HPd.out.cell 0 _ rfl;have q1:=HPd.out.cell 1 _ rfl;have q2:=HPd.out.cell 2 _ rfl;have q3:=HPd.out.cell 3 _ rfl;have q4:=HPd.out.cell 4 _ rfl;have q5:=HPd.out.cell 5 _ rfl;have q6:=HPd.out.cell 6 _ rfl;have HC0:=hJ (((Bx.fresh w4 44 [.string ((⟨#[110]⟩:Str)++dd),.int .i64 1]).other (a:=⟨wr.heap.size,2,none⟩) (u:=.int .i64 0) (by show wr.heap.size≠_;omega)).other (a:=⟨wr.heap.size,3,none⟩) (u:=.slice (some ⟨w4.heap.size,0,none⟩) 1 1) (by show wr.heap.size≠_;omega));have HKd:Hid (∀ q,q<wr.heap.size→q≠w.heap.size+1→(((w4.alloc (.cells #[.string ((⟨#[110]⟩:Str)++dd),.int .i64 1] 44)).setCell ⟨wr.heap.size,2,none⟩ (.int .i64 0)).setCell ⟨wr.heap.size,3,none⟩ (.slice (some ⟨w4.heap.size,0,none⟩) 1 1)).heap[q]? =wr.heap[q]?):=hJ (fun q hq hne=>(kAA (by show wr.heap.size≠q;omega)).trans ((kAA (by show wr.heap.size≠q;omega)).trans ((Below.heap_alloc _ _ _ (by omega)).trans (HK4.out q hq hne))));have HGd:=hJ (((HG4.out.alloc (.cells #[.string ((⟨#[110]⟩:Str)++dd),.int .i64 1] 44)).other (a:=⟨wr.heap.size,2,none⟩) (u:=.int .i64 0) (by show wr.heap.size≠_;omega)).other (a:=⟨wr.heap.size,3,none⟩) (u:=.slice (some ⟨w4.heap.size,0,none⟩) 1 1) (by show wr.heap.size≠_;omega));have HBd:Hid (Below w.heap.size w (((w4.alloc (.cells #[.string ((⟨#[110]⟩:Str)++dd),.int .i64 1] 44)).setCell ⟨wr.heap.size,2,none⟩ (.int .i64 0)).setCell ⟨wr.heap.size,3,none⟩ (.slice (some ⟨w4.heap.size,0,none⟩) 1 1))):=hJ (((HB4.out.alloc HB4.out.size _).setCell (by show w.heap.size≤wr.heap.size;omega) _).setCell (by show w.heap.size≤wr.heap.size;omega) _)
      have HRY:Hid (RBnd.rd (fun q=>w2.heap.size≤q∧(Value.slice a0 m0 c0).ownBlock≠some q) (((w4.alloc (.cells #[.string ((⟨#[110]⟩:Str)++dd),.int .i64 1] 44)).setCell ⟨wr.heap.size,2,none⟩ (.int .i64 0)).setCell ⟨wr.heap.size,3,none⟩ (.slice (some ⟨w4.heap.size,0,none⟩) 1 1)) [.int .i64 1,.string nv,.int .i64 0,.slice (some ⟨w4.heap.size,0,none⟩) 1 1,.string ⟨#[]⟩,.slice da 0 dc,.string ⟨#[]⟩] y):=hJ (by
       rw [← HYe.out,HR1.out.1];exact ⟨_,_,rfl,⟨_,1,rfl,Sl.single (cs:=[.string ((⟨#[110]⟩:Str)++dd),.int .i64 1]) HC0.out (by rw [HNm.out];rfl) ⟨by omega,fun e=>by have:=(HO.out.block e).2;omega⟩⟩,⟨da,dc,rfl,Sl.zero HDa.out.1 HDa.out.2⟩⟩)
      have HOd:Hid (Own RBnd 42 (fun q=>w2.heap.size≤q) (((w4.alloc (.cells #[.string ((⟨#[110]⟩:Str)++dd),.int .i64 1] 44)).setCell ⟨wr.heap.size,2,none⟩ (.int .i64 0)).setCell ⟨wr.heap.size,3,none⟩ (.slice (some ⟨w4.heap.size,0,none⟩) 1 1)) w2.heap.size (.slice a0 m0 c0) lk):=hJ ((HOc.out.frame (fun q hq hs=>HKd.out q hq (by rcases hs with hs | hs;exact (by have:=hs.1;omega);exact (by have:=HO.out.base_le q hs;omega))) (by simp <;> omega)).mono (fun q hq _=>hq.1));have hzd:wr.heap.size<(((w4.alloc (.cells #[.string ((⟨#[110]⟩:Str)++dd),.int .i64 1] 44)).setCell ⟨wr.heap.size,2,none⟩ (.int .i64 0)).setCell ⟨wr.heap.size,3,none⟩ (.slice (some ⟨w4.heap.size,0,none⟩) 1 1)).heap.size:=by simp <;> omega
      have HZd:=hJ hzd;clear hzd
      go_wp2_with (at_builtin;refine kA1 kCS rfl _ _ rfl w2.heap.size _ _ rfl (HOd.out.alloc _) _ y [.int .i64 1,.string nv,.int .i64 0,.slice (some ⟨w4.heap.size,0,none⟩) 1 1,.string ⟨#[]⟩,.slice da 0 dc,.string ⟨#[]⟩] rfl (RBnd.below HRY.out ((zB _ _).alloc (zR _) _)) (kA3 42 (by (simp only [kAJ,kAF,Array.getElem?_push,Array.size_push];simp))) (by have:=HLk.out;omega) (by have:=HLk.out;unfold maxLen;omega) (by have:=HZd.out;simp at this ⊢;omega) ?_;intro v9 w9 hown9 hb9 hk9;obtain ⟨a9,m9,c9,rfl⟩:=hown9.shape)
      have HG9:Hid (Bx w9 (w.heap.size+1) 55 (cntV L (k+1))):=hJ (by rw [HR1.out.2,HCV0.out];exact (HGd.out.alloc _).kp hk9 (HO.out.ne (by omega)));have HK9:Hid (∀ q,q<w2.heap.size→q≠w.heap.size+1→w9.heap[q]? =w2.heap[q]?):=hJ (fun q hq hne=>(hk9.block q (by have:=HZd.out;simp at this ⊢;omega) (HO.out.ne hq)).trans ((Below.heap_alloc _ _ _ (by have:=HZd.out;omega)).trans ((HKd.out q (by omega) hne).trans (HK.out q hq hne))));have hz9:w2.heap.size≤w9.heap.size:=by have h1:=hb9.size;have h2:=HZd.out;simp at h1 h2;omega
      have HB9:Hid (Below w.heap.size w w9):=hJ ((HBd.out.alloc HBd.out.size _).trans (hb9.mono (by omega)));go_roundw
      case rel=>exact ⟨k+1,_,by omega,by go_num,rfl,hJ (by rw [HNext.out];exact hown9),HG9,HK9,HB9.out,hz9⟩
      case measure=>simp [intOf];omega
    · skip
      have hkd:kd=2:=hok;subst hkd;have HR1:=hJ (HRen.out.at2 rfl);rw [HCe.out.2.1] at HR1;clear HRen;have HP:=hJ (Bx.fresh wr 42 [.int .i64 2,.string nv,.int .i64 0,.slice ta 0 tc,.string ⟨#[]⟩,.slice da 0 dc,.string ⟨#[]⟩]);have HGa:=hJ (HGq.out.alloc (.cells #[.int .i64 2,.string nv,.int .i64 0,.slice ta 0 tc,.string ⟨#[]⟩,.slice da 0 dc,.string ⟨#[]⟩] 42));have p0:=HP.out.cell 0 _ rfl;have g1:=HGa.out.cell 2 _ rfl;have v1:=HGa.out.fz 2;have HG1:=hJ (HGa.out.set 2 (.int .i64 ((n2:Int)+1)));have h1:=HG1.out.cell 2 _ rfl;have HP1:Hid (Bx ((wr.alloc (.cells #[.int .i64 2,.string nv,.int .i64 0,.slice ta 0 tc,.string ⟨#[]⟩,.slice da 0 dc,.string ⟨#[]⟩] 42)).setCell ⟨w.heap.size+1,2,none⟩ (.int .i64 ((n2:Int)+1))) wr.heap.size 42 [.int .i64 2,.string nv,.int .i64 0,.slice ta 0 tc,.string ⟨#[]⟩,.slice da 0 dc,.string ⟨#[]⟩]):=hJ (HP.out.other (by show w.heap.size+1≠_;omega));have HKb:Hid (∀ q,q<wr.heap.size→q≠w.heap.size+1→((wr.alloc (.cells #[.int .i64 2,.string nv,.int .i64 0,.slice ta 0 tc,.string ⟨#[]⟩,.slice da 0 dc,.string ⟨#[]⟩] 42)).setCell ⟨w.heap.size+1,2,none⟩ (.int .i64 ((n2:Int)+1))).heap[q]? =wr.heap[q]?):=hJ (fun q hq hne=>(kAA (fun e=>hne e.symm)).trans (Below.heap_alloc _ _ _ hq));have HBb:Hid (Below w.heap.size w ((wr.alloc (.cells #[.int .i64 2,.string nv,.int .i64 0,.slice ta 0 tc,.string ⟨#[]⟩,.slice da 0 dc,.string ⟨#[]⟩] 42)).setCell ⟨w.heap.size+1,2,none⟩ (.int .i64 ((n2:Int)+1)))):=hJ ((hB.alloc hB.size _).setCell (by simp) _);have hzb:((wr.alloc (.cells #[.int .i64 2,.string nv,.int .i64 0,.slice ta 0 tc,.string ⟨#[]⟩,.slice da 0 dc,.string ⟨#[]⟩] 42)).setCell ⟨w.heap.size+1,2,none⟩ (.int .i64 ((n2:Int)+1))).heap.size=wr.heap.size+1:=by simp
      have HZb:=hJ hzb;clear hzb;have r0:=HP1.out.cell 0 _ rfl;have HCd:=hJ (kF4 (n2+1) (by omega) (by omega) ((wr.alloc (.cells #[.int .i64 2,.string nv,.int .i64 0,.slice ta 0 tc,.string ⟨#[]⟩,.slice da 0 dc,.string ⟨#[]⟩] 42)).setCell ⟨w.heap.size+1,2,none⟩ (.int .i64 ((n2:Int)+1))));rw [Int.natCast_add,Int.natCast_one] at HCd;clear HGa HP
      go_wp2_with fail
      refine HCd.out.mono ?_;rintro e w4 ⟨rfl,hb4⟩;clear HCd;have hz4:wr.heap.size+1≤w4.heap.size:=by have:=hb4.size;rw [HZb.out] at this;exact this
      have HP4:=hJ (HP1.out.below hb4 (by rw [HZb.out];omega));have HG4:=hJ (HG1.out.below hb4 (by rw [HZb.out];omega));have HK4:Hid (∀ q,q<wr.heap.size→q≠w.heap.size+1→w4.heap[q]? =wr.heap[q]?):=hJ (fun q hq hne=>(hb4.block q (by rw [HZb.out];omega)).trans (HKb.out q hq hne));have HB4:=hJ (HBb.out.trans (hb4.mono (by rw [HZb.out];omega)));have s0:=HP4.out.cell 0 _ rfl;have s1:=HP4.out.cell 1 _ rfl;have s2:=HP4.out.cell 2 _ rfl;have s3:=HP4.out.cell 3 _ rfl;have s4:=HP4.out.cell 4 _ rfl;have s5:=HP4.out.cell 5 _ rfl;have s6:=HP4.out.cell 6 _ rfl;have v4:=HP4.out.fz;clear HKb HBb HP1 HG1 hb4 r0 h1 g1 v1 p0 HZb e0 e1 e2 e3 e4 e5 e6
      have hds:(decS (n2+1)).size≤6:=by
       show (Lib.decDigits (n2+1)).length≤6
       exact kGF 5 _ (by omega)
      have HNm:Hid (∀ c:UInt8,(⟨#[c]⟩:Str)++decS (n2+1)=nm c (n2+1)):=hJ (fun c=>rfl);generalize decS (n2+1)=dd at *;have HOc:=hJ HO.out.cut;have vc4:=HP4.out.fz 4;have c4:=HP4.out.cell 4 _ rfl;have HPd1:=hJ (HP4.out.set 4 (.string ((⟨#[114]⟩:Str)++dd)));have vd5:=HPd1.out.fz 5;have d5:=HPd1.out.cell 5 _ rfl;have HPd:=hJ (HPd1.out.set 5 (.slice none 0 0));have q0:=HPd.out.cell 0 _ rfl;have q1:=HPd.out.cell 1 _ rfl;have q2:=HPd.out.cell 2 _ rfl;have q3:=HPd.out.cell 3 _ rfl;have q4:=HPd.out.cell 4 _ rfl;have q5:=HPd.out.cell 5 _ rfl;have q6:=HPd.out.cell 6 _ rfl;have HKd:Hid (∀ q,q<wr.heap.size→q≠w.heap.size+1→((w4.setCell ⟨wr.heap.size,4,none⟩ (.string ((⟨#[114]⟩:Str)++dd))).setCell ⟨wr.heap.size,5,none⟩ (.slice none 0 0)).heap[q]? =wr.heap[q]?):=hJ (fun q hq hne=>(kAA (by show wr.heap.size≠q;omega)).trans ((kAA (by show wr.heap.size≠q;omega)).trans (HK4.out q hq hne)));have HGd:=hJ ((HG4.out.other (a:=⟨wr.heap.size,4,none⟩) (u:=.string ((⟨#[114]⟩:Str)++dd)) (by show wr.heap.size≠_;omega)).other (a:=⟨wr.heap.size,5,none⟩) (u:=.slice none 0 0) (by show wr.heap.size≠_;omega));have HBd:Hid (Below w.heap.size w ((w4.setCell ⟨wr.heap.size,4,none⟩ (.string ((⟨#[114]⟩:Str)++dd))).setCell ⟨wr.heap.size,5,none⟩ (.slice none 0 0))):=hJ ((HB4.out.setCell (by show w.heap.size≤wr.heap.size;omega) _).setCell (by show w.heap.size≤wr.heap.size;omega) _)
      have HRY:Hid (RBnd.rd (fun q=>w2.heap.size≤q∧(Value.slice a0 m0 c0).ownBlock≠some q) ((w4.setCell ⟨wr.heap.size,4,none⟩ (.string ((⟨#[114]⟩:Str)++dd))).setCell ⟨wr.heap.size,5,none⟩ (.slice none 0 0)) [.int .i64 2,.string nv,.int .i64 0,.slice ta 0 tc,.string ((⟨#[114]⟩:Str)++dd),.slice none 0 0,.string ⟨#[]⟩] y):=hJ (by
       rw [← HYe.out,HR1.out.1,← HNm.out];exact ⟨_,_,rfl,⟨ta,tc,rfl,Sl.zero HTa.out.1 HTa.out.2⟩,⟨none,0,rfl,Sl.empty _ _ _⟩⟩)
      have HOd:Hid (Own RBnd 42 (fun q=>w2.heap.size≤q) ((w4.setCell ⟨wr.heap.size,4,none⟩ (.string ((⟨#[114]⟩:Str)++dd))).setCell ⟨wr.heap.size,5,none⟩ (.slice none 0 0)) w2.heap.size (.slice a0 m0 c0) lk):=hJ ((HOc.out.frame (fun q hq hs=>HKd.out q hq (by rcases hs with hs | hs;exact (by have:=hs.1;omega);exact (by have:=HO.out.base_le q hs;omega))) (by simp <;> omega)).mono (fun q hq _=>hq.1));have hzd:wr.heap.size<((w4.setCell ⟨wr.heap.size,4,none⟩ (.string ((⟨#[114]⟩:Str)++dd))).setCell ⟨wr.heap.size,5,none⟩ (.slice none 0 0)).heap.size:=by simp <;> omega
      have HZd:=hJ hzd;clear hzd
      go_wp2_with (at_builtin;refine kA1 kCS rfl _ _ rfl w2.heap.size _ _ rfl (HOd.out.alloc _) _ y [.int .i64 2,.string nv,.int .i64 0,.slice ta 0 tc,.string ((⟨#[114]⟩:Str)++dd),.slice none 0 0,.string ⟨#[]⟩] rfl (RBnd.below HRY.out ((zB _ _).alloc (zR _) _)) (kA3 42 (by (simp only [kAJ,kAF,Array.getElem?_push,Array.size_push];simp))) (by have:=HLk.out;omega) (by have:=HLk.out;unfold maxLen;omega) (by have:=HZd.out;simp at this ⊢;omega) ?_;intro v9 w9 hown9 hb9 hk9;obtain ⟨a9,m9,c9,rfl⟩:=hown9.shape)
      have HG9:Hid (Bx w9 (w.heap.size+1) 55 (cntV L (k+1))):=hJ (by rw [HR1.out.2,HCV0.out];exact (HGd.out.alloc _).kp hk9 (HO.out.ne (by omega)));have HK9:Hid (∀ q,q<w2.heap.size→q≠w.heap.size+1→w9.heap[q]? =w2.heap[q]?):=hJ (fun q hq hne=>(hk9.block q (by have:=HZd.out;simp at this ⊢;omega) (HO.out.ne hq)).trans ((Below.heap_alloc _ _ _ (by have:=HZd.out;omega)).trans ((HKd.out q (by omega) hne).trans (HK.out q hq hne))));have hz9:w2.heap.size≤w9.heap.size:=by have h1:=hb9.size;have h2:=HZd.out;simp at h1 h2;omega
      have HB9:Hid (Below w.heap.size w w9):=hJ ((HBd.out.alloc HBd.out.size _).trans (hb9.mono (by omega)));go_roundw
      case rel=>exact ⟨k+1,_,by omega,by go_num,rfl,hJ (by rw [HNext.out];exact hown9),HG9,HK9,HB9.out,hz9⟩
      case measure=>simp [intOf];omega
    · skip
      have hkd:kd=3:=hok;subst hkd;have HR1:=hJ (HRen.out.at3 rfl);rw [HCe.out.2.2] at HR1;clear HRen;have HP:=hJ (Bx.fresh wr 42 [.int .i64 3,.string nv,.int .i64 0,.slice ta 0 tc,.string ⟨#[]⟩,.slice da 0 dc,.string ⟨#[]⟩]);have HGa:=hJ (HGq.out.alloc (.cells #[.int .i64 3,.string nv,.int .i64 0,.slice ta 0 tc,.string ⟨#[]⟩,.slice da 0 dc,.string ⟨#[]⟩] 42));have p0:=HP.out.cell 0 _ rfl;have g1:=HGa.out.cell 3 _ rfl;have v1:=HGa.out.fz 3;have HG1:=hJ (HGa.out.set 3 (.int .i64 ((n3:Int)+1)));have h1:=HG1.out.cell 3 _ rfl;have HP1:Hid (Bx ((wr.alloc (.cells #[.int .i64 3,.string nv,.int .i64 0,.slice ta 0 tc,.string ⟨#[]⟩,.slice da 0 dc,.string ⟨#[]⟩] 42)).setCell ⟨w.heap.size+1,3,none⟩ (.int .i64 ((n3:Int)+1))) wr.heap.size 42 [.int .i64 3,.string nv,.int .i64 0,.slice ta 0 tc,.string ⟨#[]⟩,.slice da 0 dc,.string ⟨#[]⟩]):=hJ (HP.out.other (by show w.heap.size+1≠_;omega));have HKb:Hid (∀ q,q<wr.heap.size→q≠w.heap.size+1→((wr.alloc (.cells #[.int .i64 3,.string nv,.int .i64 0,.slice ta 0 tc,.string ⟨#[]⟩,.slice da 0 dc,.string ⟨#[]⟩] 42)).setCell ⟨w.heap.size+1,3,none⟩ (.int .i64 ((n3:Int)+1))).heap[q]? =wr.heap[q]?):=hJ (fun q hq hne=>(kAA (fun e=>hne e.symm)).trans (Below.heap_alloc _ _ _ hq));have HBb:Hid (Below w.heap.size w ((wr.alloc (.cells #[.int .i64 3,.string nv,.int .i64 0,.slice ta 0 tc,.string ⟨#[]⟩,.slice da 0 dc,.string ⟨#[]⟩] 42)).setCell ⟨w.heap.size+1,3,none⟩ (.int .i64 ((n3:Int)+1)))):=hJ ((hB.alloc hB.size _).setCell (by simp) _);have hzb:((wr.alloc (.cells #[.int .i64 3,.string nv,.int .i64 0,.slice ta 0 tc,.string ⟨#[]⟩,.slice da 0 dc,.string ⟨#[]⟩] 42)).setCell ⟨w.heap.size+1,3,none⟩ (.int .i64 ((n3:Int)+1))).heap.size=wr.heap.size+1:=by simp
      have HZb:=hJ hzb;clear hzb;have r0:=HP1.out.cell 0 _ rfl;have HCd:=hJ (kF4 (n3+1) (by omega) (by omega) ((wr.alloc (.cells #[.int .i64 3,.string nv,.int .i64 0,.slice ta 0 tc,.string ⟨#[]⟩,.slice da 0 dc,.string ⟨#[]⟩] 42)).setCell ⟨w.heap.size+1,3,none⟩ (.int .i64 ((n3:Int)+1))));rw [Int.natCast_add,Int.natCast_one] at HCd;clear HGa HP
      go_wp2_with fail
      refine HCd.out.mono ?_;rintro e w4 ⟨rfl,hb4⟩;clear HCd;have hz4:wr.heap.size+1≤w4.heap.size:=by have:=hb4.size;rw [HZb.out] at this;exact this
      have HP4:=hJ (HP1.out.below hb4 (by rw [HZb.out];omega));have HG4:=hJ (HG1.out.below hb4 (by rw [HZb.out];omega));have HK4:Hid (∀ q,q<wr.heap.size→q≠w.heap.size+1→w4.heap[q]? =wr.heap[q]?):=hJ (fun q hq hne=>(hb4.block q (by rw [HZb.out];omega)).trans (HKb.out q hq hne));have HB4:=hJ (HBb.out.trans (hb4.mono (by rw [HZb.out];omega)));have s0:=HP4.out.cell 0 _ rfl;have s1:=HP4.out.cell 1 _ rfl;have s2:=HP4.out.cell 2 _ rfl;have s3:=HP4.out.cell 3 _ rfl;have s4:=HP4.out.cell 4 _ rfl;have s5:=HP4.out.cell 5 _ rfl;have s6:=HP4.out.cell 6 _ rfl;have v4:=HP4.out.fz;clear HKb HBb HP1 HG1 hb4 r0 h1 g1 v1 p0 HZb e0 e1 e2 e3 e4 e5 e6
      have hds:(decS (n3+1)).size≤6:=by
       show (Lib.decDigits (n3+1)).length≤6
       exact kGF 5 _ (by omega)
      have HNm:Hid (∀ c:UInt8,(⟨#[c]⟩:Str)++decS (n3+1)=nm c (n3+1)):=hJ (fun c=>rfl);generalize decS (n3+1)=dd at *;have HOc:=hJ HO.out.cut;have vc6:=HP4.out.fz 6;have c6:=HP4.out.cell 6 _ rfl;have HPd:=hJ (HP4.out.set 6 (.string ((⟨#[65]⟩:Str)++dd)));have q0:=HPd.out.cell 0 _ rfl;have q1:=HPd.out.cell 1 _ rfl;have q2:=HPd.out.cell 2 _ rfl;have q3:=HPd.out.cell 3 _ rfl;have q4:=HPd.out.cell 4 _ rfl;have q5:=HPd.out.cell 5 _ rfl;have q6:=HPd.out.cell 6 _ rfl;have HKd:Hid (∀ q,q<wr.heap.size→q≠w.heap.size+1→(w4.setCell ⟨wr.heap.size,6,none⟩ (.string ((⟨#[65]⟩:Str)++dd))).heap[q]? =wr.heap[q]?):=hJ (fun q hq hne=>(kAA (by show wr.heap.size≠q;omega)).trans (HK4.out q hq hne));have HGd:=hJ (HG4.out.other (a:=⟨wr.heap.size,6,none⟩) (u:=.string ((⟨#[65]⟩:Str)++dd)) (by show wr.heap.size≠_;omega));have HBd:Hid (Below w.heap.size w (w4.setCell ⟨wr.heap.size,6,none⟩ (.string ((⟨#[65]⟩:Str)++dd)))):=hJ (HB4.out.setCell (by show w.heap.size≤wr.heap.size;omega) _)
      have HRY:Hid (RBnd.rd (fun q=>w2.heap.size≤q∧(Value.slice a0 m0 c0).ownBlock≠some q) (w4.setCell ⟨wr.heap.size,6,none⟩ (.string ((⟨#[65]⟩:Str)++dd))) [.int .i64 3,.string nv,.int .i64 0,.slice ta 0 tc,.string ⟨#[]⟩,.slice da 0 dc,.string ((⟨#[65]⟩:Str)++dd)] y):=hJ (by
       rw [← HYe.out,HR1.out.1,← HNm.out];exact ⟨_,_,rfl,⟨ta,tc,rfl,Sl.zero HTa.out.1 HTa.out.2⟩,⟨da,dc,rfl,Sl.zero HDa.out.1 HDa.out.2⟩⟩)
      have HOd:Hid (Own RBnd 42 (fun q=>w2.heap.size≤q) (w4.setCell ⟨wr.heap.size,6,none⟩ (.string ((⟨#[65]⟩:Str)++dd))) w2.heap.size (.slice a0 m0 c0) lk):=hJ ((HOc.out.frame (fun q hq hs=>HKd.out q hq (by rcases hs with hs | hs;exact (by have:=hs.1;omega);exact (by have:=HO.out.base_le q hs;omega))) (by simp <;> omega)).mono (fun q hq _=>hq.1));have hzd:wr.heap.size<(w4.setCell ⟨wr.heap.size,6,none⟩ (.string ((⟨#[65]⟩:Str)++dd))).heap.size:=by simp <;> omega
      have HZd:=hJ hzd;clear hzd
      go_wp2_with (at_builtin;refine kA1 kCS rfl _ _ rfl w2.heap.size _ _ rfl (HOd.out.alloc _) _ y [.int .i64 3,.string nv,.int .i64 0,.slice ta 0 tc,.string ⟨#[]⟩,.slice da 0 dc,.string ((⟨#[65]⟩:Str)++dd)] rfl (RBnd.below HRY.out ((zB _ _).alloc (zR _) _)) (kA3 42 (by (simp only [kAJ,kAF,Array.getElem?_push,Array.size_push];simp))) (by have:=HLk.out;omega) (by have:=HLk.out;unfold maxLen;omega) (by have:=HZd.out;simp at this ⊢;omega) ?_;intro v9 w9 hown9 hb9 hk9;obtain ⟨a9,m9,c9,rfl⟩:=hown9.shape)
      have HG9:Hid (Bx w9 (w.heap.size+1) 55 (cntV L (k+1))):=hJ (by rw [HR1.out.2,HCV0.out];exact (HGd.out.alloc _).kp hk9 (HO.out.ne (by omega)));have HK9:Hid (∀ q,q<w2.heap.size→q≠w.heap.size+1→w9.heap[q]? =w2.heap[q]?):=hJ (fun q hq hne=>(hk9.block q (by have:=HZd.out;simp at this ⊢;omega) (HO.out.ne hq)).trans ((Below.heap_alloc _ _ _ (by have:=HZd.out;omega)).trans ((HKd.out q (by omega) hne).trans (HK.out q hq hne))));have hz9:w2.heap.size≤w9.heap.size:=by have h1:=hb9.size;have h2:=HZd.out;simp at h1 h2;omega
      have HB9:Hid (Below w.heap.size w w9):=hJ ((HBd.out.alloc HBd.out.size _).trans (hb9.mono (by omega)));go_roundw
      case rel=>exact ⟨k+1,_,by omega,by go_num,rfl,hJ (by rw [HNext.out];exact hown9),HG9,HK9,HB9.out,hz9⟩
      case measure=>simp [intOf];omega
  · have HAll:Hid ((ren L).take k=ren L):=hJ (zT (by rw [kGT,HN.out];omega))
    go_wp2_with fail
    go_ret;exact ⟨⟨_,rfl,by have:=(HO.out.lower (base':=w.heap.size) (by omega)).mono (S':=fun q=>w.heap.size≤q) (fun q hq _=>by have hq:w2.heap.size≤q:=hq;omega);rwa [HAll.out] at this⟩,hB⟩
def kBG (b:List Bnd) (s:Sch):Sch:=if kBO b s then kBH b s else kEQ
def kBT (b:List Bnd) (s:Sch):Int:=if kBO b s then 0 else 3
theorem sch_no {b:List Bnd} {s:Sch} (h:kBO b s=false):kBG b s=kEQ∧kBT b s=3:=by
 unfold kBG kBT;rw [h];exact ⟨rfl,rfl⟩
theorem sch_badP {b:List Bnd} {s:Sch} {i:Nat} (hi:i<s.params.length) (h:kA0 b (s.params.getD i default).shape=false):kBG b s=kEQ∧kBT b s=3:=sch_no (by
 have:s.params.all (fun t=>kA0 b t.shape)=false:=List.all_eq_false.2 ⟨_,kAM hi,by rw [h];decide⟩;unfold kBO;rw [this];simp)
theorem sch_badR {b:List Bnd} {s:Sch} (h:kA0 b s.result.shape=false):kBG b s=kEQ∧kBT b s=3:=sch_no (by
 unfold kBO;rw [h];simp)
theorem sch_badW {b:List Bnd} {s:Sch} {i:Nat} (hi:i<s.wh.length) (h:kAB (kAD b (s.wh.getD i default))=false):kBG b s=kEQ∧kBT b s=3:=sch_no (by
 have:s.wh.all (fun x=>kAB (kAD b x))=false:=List.all_eq_false.2 ⟨_,kAM hi,by rw [h];decide⟩;unfold kBO;rw [this];simp)
theorem all_getD {α :Type} [Inhabited α] {l:List α} {p: α →Bool} (h:∀ i,i<l.length→p (l.getD i default)=true):l.all p=true:=by
 rw [List.all_eq_true];intro x hx;obtain ⟨i,hi,e⟩:=List.getElem_of_mem hx;have:=h i hi;rw [zD,zG hi] at this;rw [← e];exact this
theorem sch_good {b:List Bnd} {s:Sch} (hv:kAI s=true) (hb:kA8 b=true) (h1:∀ i,i<s.params.length→kA0 b (s.params.getD i default).shape=true) (h2:kA0 b s.result.shape=true) (h3:∀ i,i<s.wh.length→kAB (kAD b (s.wh.getD i default))=true):kBG b s=kBH b s∧kBT b s=0:=by
 have:kBO b s=true:=by
  unfold kBO;rw [hv,hb,all_getD (p:=fun t:Typ=>kA0 b t.shape) h1,h2,all_getD (p:=fun x=>kAB (kAD b x)) h3];rfl
 unfold kBG kBT;rw [this];exact ⟨rfl,rfl⟩
theorem Bx.other3 {w:World} {g g':Nat} {E:TypeId} {cs:List Value} (h:Bx w g E cs) (hne:g'≠g) (a b c:Value):Bx (((w.setCell ⟨g',0,none⟩ a).setCell ⟨g',1,none⟩ b).setCell ⟨g',2,none⟩ c) g E cs:=((h.other hne).other hne).other hne
theorem Bx.other2 {w:World} {g g':Nat} {E:TypeId} {cs:List Value} (h:Bx w g E cs) (hne:g'≠g) (a b:Value):Bx ((w.setCell ⟨g',0,none⟩ a).setCell ⟨g',1,none⟩ b) g E cs:=(h.other hne).other hne
def kE8 (B:Nat) (w:World) (ds:List Value) (s:Sch):Prop:=∃ base p t q,B≤base∧ds=[p,.string s.result.elem,.string s.result.shape.row,t,q]∧SlV RTyp (fun k=>B≤k∧k<base) w p s.params∧SlV RLin (fun k=>B≤k∧k<base) w t s.result.shape.dims∧Own RLin 40 (fun k=>base≤k) w base q s.wh
theorem kE8.no (B:Nat) (w:World):kE8 B w [.slice none 0 0,.string ⟨#[]⟩,.string ⟨#[]⟩,.slice none 0 0,.slice none 0 0] kEQ :=
 ⟨B,_,_,_,zR _,rfl,⟨none,0,rfl,Sl.empty _ _ _⟩,⟨none,0,rfl,Sl.empty _ _ _⟩,Own.nil _ _ _ _ _⟩
theorem kE8.rd {B:Nat} {w:World} {ds:List Value} {s:Sch} (h:kE8 B w ds s):RSch.rd (fun k=>B≤k) w ds s:=by
 obtain ⟨base,p,t,q,hb,rfl,h1,h2,h3⟩:=h;obtain ⟨a,c,rfl,h4⟩:=h3.sl;exact ⟨p,t,_,rfl,h1.mono (fun k hk _=>hk.1),h2.mono (fun k hk _=>hk.1),⟨a,c,rfl,h4.mono (fun k hk _=>by have:base≤k:=hk.elim id id;omega)⟩⟩
def kFD (X:Blk) (B:Nat) (w:World) (ds:List Value) (s:Sch):Prop:=∃ base p t q,B≤base∧ds=[p,.string s.result.elem,.string s.result.shape.row,t,q]∧SlV RTyp (fun k=>(X k∨B≤k)∧k<base) w p s.params∧SlV RLin (fun k=>(X k∨B≤k)∧k<base) w t s.result.shape.dims∧Own RLin 40 (fun k=>base≤k) w base q s.wh
theorem kFD.no (X:Blk) (B:Nat) (w:World):kFD X B w [.slice none 0 0,.string ⟨#[]⟩,.string ⟨#[]⟩,.slice none 0 0,.slice none 0 0] kEQ :=
 ⟨B,_,_,_,zR _,rfl,⟨none,0,rfl,Sl.empty _ _ _⟩,⟨none,0,rfl,Sl.empty _ _ _⟩,Own.nil _ _ _ _ _⟩
theorem kFD.plain {X:Blk} {B:Nat} {w:World} {ds:List Value} {s:Sch} (h:kFD X B w ds s) (hX:∀ q,¬ X q):kE8 B w ds s:=by
 obtain ⟨base,p,t,q,hb,e,h1,h2,h3⟩:=h;exact ⟨base,p,t,q,hb,e,h1.mono (fun k hk _=>⟨hk.1.resolve_left (hX k),hk.2⟩),h2.mono (fun k hk _=>⟨hk.1.resolve_left (hX k),hk.2⟩),h3⟩
theorem kFD.rd {X:Blk} {B:Nat} {w:World} {ds:List Value} {s:Sch} (h:kFD X B w ds s):RSch.rd All w ds s:=by
 obtain ⟨base,p,t,q,hb,rfl,h1,h2,h3⟩:=h;obtain ⟨a,c,rfl,h4⟩:=h3.sl;exact ⟨p,t,_,rfl,h1.mono (fun k hk _=>trivial),h2.mono (fun k hk _=>trivial),⟨a,c,rfl,h4.mono (fun k hk _=>trivial)⟩⟩
theorem kFF {S T:Blk} {s:Sch} {cs:List Value} {w:World} (h:RSch.rd S w cs s) (hv:kAI s=true) (b:List Bnd) (a:Option Addr) (nb cb:Nat) (hbs:Sl RBnd T w a nb cb b) (hb:kA8 b=true) (E:Env w) :
 Calls Tryz.prog 12 #[.agg cs.toArray,.slice a nb cb] w fun e w'=>(∃ ds,e= .returned (.tuple #[.agg ds.toArray,.int .i64 (kBT b s)])∧kE8 w.heap.size w' ds (kBG b s))∧Below w.heap.size w w':=by
 have HCV:Hid (∀ W,Below w.heap.size w W→Calls Tryz.prog 16 #[.agg cs.toArray] W fun e w'=>e= .returned (.bool true)∧Below W.heap.size W w') :=
  hJ (fun W hW=>hv ▸ kBK (RSch.below h hW) (kGS hv) (E.below hW))
 have HCB:Hid (∀ W,Below w.heap.size w W→Calls Tryz.prog 38 #[.slice a nb cb] W fun e w'=>e= .returned (.bool true)∧Below W.heap.size W w') :=
  hJ (fun W hW=>kD2 b a nb cb W (hbs.below hW) hb (E.below hW))
 have EE:=hJ E;have HCT:=hJ (fun (W:World) (hW:Below w.heap.size w W) (x:Typ) (ds:List Value) (hx:RTyp.rd S W ds x) (hvx:kAH x=true)=>types_Subst hx hvx b a nb cb (hbs.below hW) hb (E.below hW));have HCL:=hJ (fun (W:World) (hW:Below w.heap.size w W) (x:Lin) (ds:List Value) (hx:RLin.rd S W ds x) (hvx:kAB x=true)=>kD0 hx hvx b a nb cb (hbs.below hW) (kDN hb) (E.below hW));obtain ⟨X,hX⟩:∃ X:Blk,X=fun _=>False:=⟨_,rfl⟩
 have HX0:Hid (∀ q,¬ X q):=hJ (fun q=>by rw [hX];exact id);have HXw:Hid (∀ q,X q→q<w.heap.size):=hJ (fun q h=>absurd h (HX0.out q));clear hX;obtain ⟨_,_,_,rfl,⟨ap,cp,rfl,hps⟩,⟨ar,cr,rfl,hrs⟩,⟨aq,cq,rfl,hqs⟩⟩:=h;have HPs:=hJ hps;have HRs:=hJ hrs;have HQs:=hJ hqs;have HV:=hJ (kAO hv);have HGood:=hJ (fun q1 q2 q3=>sch_good (b:=b) (s:=s) hv hb q1 q2 q3);have hpm:=hps.small;have hqm:=hqs.small;have hp12:=(kAO hv).1;have hq60:=(kAO hv).2.1;clear hps hrs hqs hbs hv hb;generalize hnn:s.params.length=n at *;generalize hmm:s.wh.length=m at *;have HN:=hJ hnn;have HM:=hJ hmm;clear hnn hmm;obtain ⟨B0,ya,yb,hW0⟩:=box2 w 29 [.slice ap n cp,.string s.result.elem,.string s.result.shape.row,.slice ar s.result.shape.dims.length cr,.slice aq m cq] 29 [.slice none 0 0,.string ⟨#[]⟩,.string ⟨#[]⟩,.slice none 0 0,.slice none 0 0];have xa0:=box0 ya 0 _ rfl;have xa1:=box0 ya 1 _ rfl;have xa2:=box0 ya 2 _ rfl;have xa3:=box0 ya 3 _ rfl;have xa4:=box0 ya 4 _ rfl;have xb0:=box0 yb 0 _ rfl;have xb1:=box0 yb 1 _ rfl;have xb2:=box0 yb 2 _ rfl;have xb3:=box0 yb 3 _ rfl;have xb4:=box0 yb 4 _ rfl;have bka:Bx _ _ _ _:=ya;have bkb:Bx _ _ _ _:=yb;clear ya yb;have HA0:=hJ bka;have HR0:=hJ bkb;clear bka bkb;go_enter func12,ntmps12
 go_wp2_with fail
 refine (HCV.out _ B0.out).mono ?_;rintro e w1 ⟨rfl,hb1⟩;have hW1:=B0.out.trans (hb1.mono B0.out.size)
 go_wp2_with fail
 refine (HCB.out _ hW1).mono ?_;rintro e w2 ⟨rfl,hb2⟩;have HW:=hJ (hW1.trans (hb2.mono hW1.size));have HA2:=hJ ((HA0.out.below hb1 HA0.out.lt).below hb2 (HA0.out.below hb1 HA0.out.lt).lt);have HR2:=hJ ((HR0.out.below hb1 HR0.out.lt).below hb2 (HR0.out.below hb1 HR0.out.lt).lt);have hlR:=HR2.out.lt;have hlA:=HA2.out.lt;clear xa0 xa1 xa2 xa3 xa4 xb0 xb1 xb2 xb3 xb4 hb1 hb2 hW1 HR0 HA0 B0 HCV HCB;obtain ⟨w3,hw3⟩:∃ q,q=w2.alloc (.cells #[.slice none 0 0,.string ⟨#[]⟩,.string ⟨#[]⟩,.slice none 0 0,.slice none 0 0] 29):=⟨_,rfl⟩
 have hfold:=hw3.symm;have HG3:Hid (Bx w3 w2.heap.size 29 [.slice none 0 0,.string ⟨#[]⟩,.string ⟨#[]⟩,.slice none 0 0,.slice none 0 0]):=hJ (by rw [hw3];exact Bx.fresh _ _ _);have HB3:Hid (Below w2.heap.size w2 w3):=hJ (by rw [hw3];exact (zB _ _).alloc (zR _) _);clear hw3;have HA3:=hJ (HA2.out.below HB3.out hlA);have y0:=HA3.out.cell 0 _ rfl;have y1:=HA3.out.cell 1 _ rfl;have y2:=HA3.out.cell 2 _ rfl;have y3:=HA3.out.cell 3 _ rfl;have y4:=HA3.out.cell 4 _ rfl
 go_wp2_with fail
 go_loopw [24] (fun i wr=>∃ (k:Nat) (v0:Value),k≤n∧i= .int .i64 k∧Hid (∀ j,j<k→kA0 b (s.params.getD j default).shape=true)∧Hid (Own RTyp 27 (fun q=>w2.heap.size<q) wr (w2.heap.size+1) v0 ((s.params.take k).map (kAP b)))∧Hid (Bx wr w2.heap.size 29 [v0,.string ⟨#[]⟩,.string ⟨#[]⟩,.slice none 0 0,.slice none 0 0])∧Below w2.heap.size w2 wr) (fun i _=>n - (intOf i).toNat)
 case atStart=>exact ⟨0,_,Nat.zero_le _,rfl,hJ (fun i hi=>absurd hi (by omega)),hJ (Own.nil _ _ _ _ _),HG3,HB3.out⟩
 case round =>
  obtain ⟨k,v0,hk,rfl,HT,HO,HG,hB⟩:=hrel;have HBw:=hJ (HW.out.trans (hB.mono HW.out.size));have HRr:=hJ (HR2.out.below hB hlR);have hlG:=HG.out.lt;obtain ⟨a0,m0,c0,rfl⟩:=HO.out.shape;by_cases hlt:k<n
  · obtain ⟨b1,off,rfl,hbW,_⟩:=HPs.out.form k hlt
    obtain ⟨t,hr,⟨at_,ct,rfl,hts⟩,e0,e1,e2⟩:=(HPs.out.below HBw.out).typ k hlt;have HK:Hid (k<s.params.length):=hJ (by rw [HN.out];exact hlt);have HNext:Hid ((s.params.take (k+1)).map (kAP b)=(s.params.take k).map (kAP b)++[kAP b (s.params.getD k default)]):=hJ (by rw [kAU HK.out,List.map_append];rfl);have hkl:((s.params.take k).map (kAP b)).length=k:=by rw [List.length_map,zN,HN.out];omega
    have HBad:=hJ (fun q=>sch_badP (b:=b) HK.out q);have HUp:=hJ (fun q=>upto HT.out (p:=fun j=>kA0 b (s.params.getD j default).shape=true) q);have HXv:=hJ (HV.out.2.2.1 _ (kAM HK.out));generalize s.params.getD k default=x at *;generalize (s.params.take k).map (kAP b)=lk at *;have hA:Below wr.heap.size wr (wr.alloc (.cells #[.string x.elem,.string x.shape.row,.slice at_ x.shape.dims.length ct] 27)):=(zB _ _).alloc (zR _) _;have HCx:=hJ (HCT.out _ (HBw.out.trans (hA.mono HBw.out.size)) x _ (RTyp.below hr hA) HXv.out);clear hr hts;cases hok:kA0 b x.shape with
    | false =>
      have HBd:=hJ (HBad.out hok);rw [(kB2 hok).1,(kB2 hok).2.1] at HCx;clear hok
      go_wp2_with fail
      refine HCx.out.mono ?_;rintro e w5 ⟨⟨_,rfl,hr5⟩,hb5⟩;obtain ⟨_,rfl,a5,c5,rfl,hs5⟩:=hr5;have HP5:=hJ ((Bx.fresh wr 27 [.string x.elem,.string x.shape.row,.slice at_ x.shape.dims.length ct]).below hb5 (Bx.fresh _ _ _).lt);have p0:=HP5.out.cell 0 _ rfl;have p1:=HP5.out.cell 1 _ rfl;have p2:=HP5.out.cell 2 _ rfl;have u10:=HP5.out.fz 0;have u11:=HP5.out.fz 1;have u12:=HP5.out.fz 2;have HB5:=hJ (hA.trans (hb5.mono (by simp)));have HR5:=hJ (HRr.out.below HB5.out HRr.out.lt);obtain ⟨w7,hfold7⟩:∃ q,((w5.setCell ⟨wr.heap.size,0,none⟩ (.string kB4.elem)).setCell ⟨wr.heap.size,1,none⟩ (.string kB4.shape.row)).setCell ⟨wr.heap.size,2,none⟩ (.slice a5 kB4.shape.dims.length c5)=q:=⟨_,rfl⟩
      have HRw:=hJ (HR5.out.other3 (g':=wr.heap.size) (by omega) (.string kB4.elem) (.string kB4.shape.row) (.slice a5 kB4.shape.dims.length c5));rw [hfold7] at HRw;have HWw:Hid (Below w.heap.size w w7):=hJ (by rw [← hfold7];exact (((HBw.out.trans (HB5.out.mono HBw.out.size)).setCell (by show _≤wr.heap.size;omega) _).setCell (by show _≤wr.heap.size;omega) _).setCell (by show _≤wr.heap.size;omega) _);have v0:=HRw.out.cell 0 _ rfl;have v1:=HRw.out.cell 1 _ rfl;have v2:=HRw.out.cell 2 _ rfl;have v3:=HRw.out.cell 3 _ rfl;have v4:=HRw.out.cell 4 _ rfl;have u0:=HRw.out.fz 0;have u1:=HRw.out.fz 1;have u2:=HRw.out.fz 2;have u3:=HRw.out.fz 3;have u4:=HRw.out.fz 4;have hlr:=HRw.out.lt;have HX60:=hJ (((((HRw.out.set 0 (.slice none 0 0)).set 1 (.string ⟨#[]⟩)).set 2 (.string ⟨#[]⟩)).set 3 (.slice none 0 0)).set 4 (.slice none 0 0));have s0:=HX60.out.cell 0 _ rfl;have s1:=HX60.out.cell 1 _ rfl;have s2:=HX60.out.cell 2 _ rfl;have s3:=HX60.out.cell 3 _ rfl;have s4:=HX60.out.cell 4 _ rfl
      go_wp2_with fail
      refine bodyPost_ret (v:=.tuple #[.agg #[.slice none 0 0,.string ⟨#[]⟩,.string ⟨#[]⟩,.slice none 0 0,.slice none 0 0],.int .i64 3]) (by simp [results,results12,go_sem,s0,s1,s2,s3,s4,hlr]) rfl ?_;refine ⟨⟨[.slice none 0 0,.string ⟨#[]⟩,.string ⟨#[]⟩,.slice none 0 0,.slice none 0 0],by rw [HBd.out.2],by rw [HBd.out.1];exact kE8.no ..⟩,?_⟩
      repeat (first | exact HWw.out | refine Below.setCell ?_ (by show _≤w.heap.size+1;omega) _)
    | true =>
      have HUp:=hJ (HUp.out hok);rw [(kDR hok).1,(kDR hok).2.1] at HCx;clear hok HBad
      go_wp2_with fail
      refine HCx.out.mono ?_;rintro e w5 ⟨⟨_,rfl,hr5⟩,hb5⟩;obtain ⟨_,rfl,a5,c5,rfl,hs5⟩:=hr5;generalize kAP b x=y at *;have HP5:=hJ ((Bx.fresh wr 27 [.string x.elem,.string x.shape.row,.slice at_ x.shape.dims.length ct]).below hb5 (Bx.fresh _ _ _).lt);have HB5:=hJ (hA.trans (hb5.mono (by simp)));have p0:=HP5.out.cell 0 _ rfl;have p1:=HP5.out.cell 1 _ rfl;have p2:=HP5.out.cell 2 _ rfl;have u10:=HP5.out.fz 0;have u11:=HP5.out.fz 1;have u12:=HP5.out.fz 2;obtain ⟨w7,hfold7⟩:∃ q,((w5.setCell ⟨wr.heap.size,0,none⟩ (.string y.elem)).setCell ⟨wr.heap.size,1,none⟩ (.string y.shape.row)).setCell ⟨wr.heap.size,2,none⟩ (.slice a5 y.shape.dims.length c5)=q:=⟨_,rfl⟩
      have HB7:Hid (Below wr.heap.size wr w7):=hJ (by rw [← hfold7];exact ((HB5.out.setCell (by exact zR _) _).setCell (by exact zR _) _).setCell (by exact zR _) _);have HP7:=hJ (((HP5.out.set 0 (.string y.elem)).set 1 (.string y.shape.row)).set 2 (.slice a5 y.shape.dims.length c5));rw [hfold7] at HP7;have r0:=HP7.out.cell 0 _ rfl;have r1:=HP7.out.cell 1 _ rfl;have r2:=HP7.out.cell 2 _ rfl;have HG7:=hJ (HG.out.below HB7.out hlG);have g0:=HG7.out.cell 0 _ rfl;have hs7:=HB7.out.size
      have HRY:Hid (RTyp.rd (fun q=>w2.heap.size<q∧(Value.slice a0 m0 c0).ownBlock≠some q) w7 [.string y.elem,.string y.shape.row,.slice a5 y.shape.dims.length c5] y):=hJ ⟨_,rfl,a5,c5,rfl,by
       rw [← hfold7]
       have h1:=hs5.mono (S':=fun q=>wr.heap.size<q) (fun q hq _=>by have hq:wr.heap.size+1≤q:=by simpa using hq
                                                                     omega)
       refine Sl.mono (S:=fun q=>wr.heap.size<q) ?_ (fun q hq _=>⟨by have:wr.heap.size<q:=hq;omega,fun e=>by have h8:=(HO.out.block e).2;have:wr.heap.size<q:=hq;omega⟩);exact ((h1.set (fun q hq=>Nat.ne_of_lt hq)).set (fun q hq=>Nat.ne_of_lt hq)).set (fun q hq=>Nat.ne_of_lt hq)⟩
      clear hs5 hb5 HP5
      go_wp2_with (at_builtin;refine kA1 kG7 rfl _ _ rfl (w2.heap.size+1) _ _ rfl ((HO.out.below HB7.out).alloc _) _ y [.string y.elem,.string y.shape.row,.slice a5 y.shape.dims.length c5] rfl (RTyp.below HRY.out ((zB _ _).alloc (zR _) _)) (kA3 27 (by (simp only [kAJ,kAF,Array.getElem?_push,Array.size_push];simp))) (by omega) (by unfold maxLen;omega) (by simp;omega) ?_;intro v9 w9 hown9 hb9 hk9;obtain ⟨a9,m9,c9,rfl⟩:=hown9.shape;have HG9:=hJ ((HG7.out.alloc _).kp hk9 (HO.out.ne (Nat.lt_succ_self _)));have g9:=HG9.out.cell 0 _ rfl;have u9:=HG9.out.fz 0)
      go_roundw
      case rel=>exact ⟨k+1,_,by omega,by go_num,HUp,hJ (by rw [HNext.out];exact hown9.set _ (fun q hq=>Nat.ne_of_gt hq) (Nat.lt_succ_self _)),hJ (HG9.out.set 0 _),((hB.trans (HB7.out.mono hB.size)).trans (((zB _ _).alloc (by omega) _).trans (hb9.mono (Nat.le_succ _)))).setCell (zR _) _⟩
      case measure=>simp [intOf];omega
  · obtain rfl:k=n:=by omega
    have HAll:Hid ((s.params.take k).map (kAP b)=s.params.map (kAP b)):=hJ (by rw [zT (by rw [HN.out];exact zR _)]);rw [HAll.out] at HO;have HAr:=hJ (HA2.out.below hB hlA);have y0:=HAr.out.cell 0 _ rfl;have y1:=HAr.out.cell 1 _ rfl;have y2:=HAr.out.cell 2 _ rfl;have y3:=HAr.out.cell 3 _ rfl;have y4:=HAr.out.cell 4 _ rfl;have HCx:=hJ (HCT.out _ HBw.out s.result _ ⟨_,rfl,ar,cr,rfl,HRs.out.below HBw.out⟩ HV.out.2.2.2.1);have g0:=HG.out.cell 0 _ rfl;cases hok:kA0 b s.result.shape with
    | false =>
      have HBd:=hJ (sch_badR (b:=b) hok);rw [(kB2 hok).1,(kB2 hok).2.1] at HCx;clear hok
      go_wp2_with fail
      refine HCx.out.mono ?_;rintro e w5 ⟨⟨_,rfl,hr5⟩,hb5⟩;obtain ⟨_,rfl,a5,c5,rfl,hs5⟩:=hr5;have HB5:=hJ hb5;have HG5:=hJ (HG.out.below hb5 hlG);have HR5:=hJ (HRr.out.below hb5 HRr.out.lt);have g1:=HG5.out.cell 1 _ rfl;have g2:=HG5.out.cell 2 _ rfl;have g3:=HG5.out.cell 3 _ rfl;have u11:=HG5.out.fz 1;have u12:=HG5.out.fz 2;have u13:=HG5.out.fz 3;obtain ⟨w7,hfold7⟩:∃ q,((w5.setCell ⟨w2.heap.size,1,none⟩ (.string kB4.elem)).setCell ⟨w2.heap.size,2,none⟩ (.string kB4.shape.row)).setCell ⟨w2.heap.size,3,none⟩ (.slice a5 kB4.shape.dims.length c5)=q:=⟨_,rfl⟩
      have HRw:=hJ (((HR5.out.other (a:=⟨w2.heap.size,1,none⟩) (u:=.string kB4.elem) (by show w2.heap.size≠_;omega)).other (a:=⟨w2.heap.size,2,none⟩) (u:=.string kB4.shape.row) (by show w2.heap.size≠_;omega)).other (a:=⟨w2.heap.size,3,none⟩) (u:=.slice a5 kB4.shape.dims.length c5) (by show w2.heap.size≠_;omega));rw [hfold7] at HRw;have hsz2:=HW.out.size;have HWw:Hid (Below w.heap.size w w7):=hJ (by rw [← hfold7];exact (((HBw.out.trans (HB5.out.mono HBw.out.size)).setCell (by show _≤w2.heap.size;omega) _).setCell (by show _≤w2.heap.size;omega) _).setCell (by show _≤w2.heap.size;omega) _);have v0:=HRw.out.cell 0 _ rfl;have v1:=HRw.out.cell 1 _ rfl;have v2:=HRw.out.cell 2 _ rfl;have v3:=HRw.out.cell 3 _ rfl;have v4:=HRw.out.cell 4 _ rfl;have u0:=HRw.out.fz 0;have u1:=HRw.out.fz 1;have u2:=HRw.out.fz 2;have u3:=HRw.out.fz 3;have u4:=HRw.out.fz 4;have hlr:=HRw.out.lt;have HX60:=hJ (((((HRw.out.set 0 (.slice none 0 0)).set 1 (.string ⟨#[]⟩)).set 2 (.string ⟨#[]⟩)).set 3 (.slice none 0 0)).set 4 (.slice none 0 0));have s0:=HX60.out.cell 0 _ rfl;have s1:=HX60.out.cell 1 _ rfl;have s2:=HX60.out.cell 2 _ rfl;have s3:=HX60.out.cell 3 _ rfl;have s4:=HX60.out.cell 4 _ rfl
      go_wp2_with fail
      refine bodyPost_ret (v:=.tuple #[.agg #[.slice none 0 0,.string ⟨#[]⟩,.string ⟨#[]⟩,.slice none 0 0,.slice none 0 0],.int .i64 3]) (by simp [results,results12,go_sem,s0,s1,s2,s3,s4,hlr]) rfl ?_;refine ⟨⟨[.slice none 0 0,.string ⟨#[]⟩,.string ⟨#[]⟩,.slice none 0 0,.slice none 0 0],by rw [HBd.out.2],by rw [HBd.out.1];exact kE8.no ..⟩,?_⟩
      repeat (first | exact HWw.out | refine Below.setCell ?_ (by show _≤w.heap.size+1;omega) _)
    | true =>
      have HokR:=hJ hok;rw [(kDR hok).1,(kDR hok).2.1] at HCx;clear hok
      go_wp2_with fail
      refine HCx.out.mono ?_;rintro e w5 ⟨⟨_,rfl,hr5⟩,hb5⟩;obtain ⟨_,rfl,a5,c5,rfl,hs5⟩:=hr5;obtain ⟨y,hy⟩:∃ y,y=kAP b s.result:=⟨_,rfl⟩
      have HY:=hJ hy;rw [← hy] at hs5 ⊢;clear hy;have HB5:=hJ hb5;have HG5:=hJ (HG.out.below hb5 hlG);have HR5:=hJ (HRr.out.below hb5 HRr.out.lt);have HA5:=hJ (HAr.out.below hb5 HAr.out.lt);have g1:=HG5.out.cell 1 _ rfl;have g2:=HG5.out.cell 2 _ rfl;have g3:=HG5.out.cell 3 _ rfl;have u11:=HG5.out.fz 1;have u12:=HG5.out.fz 2;have u13:=HG5.out.fz 3;obtain ⟨w7,hfold7⟩:∃ q,((w5.setCell ⟨w2.heap.size,1,none⟩ (.string y.elem)).setCell ⟨w2.heap.size,2,none⟩ (.string y.shape.row)).setCell ⟨w2.heap.size,3,none⟩ (.slice a5 y.shape.dims.length c5)=q:=⟨_,rfl⟩
      have hne:∀ g,g<w2.heap.size→w2.heap.size≠g:=fun g hg=>by omega
      have hsz2:=HW.out.size;have HR7:Hid (Bx w7 _ _ _):=hJ (hfold7 ▸ ((HR5.out.other (a:=⟨w2.heap.size,1,none⟩) (hne _ hlR)).other (a:=⟨w2.heap.size,2,none⟩) (hne _ hlR)).other (a:=⟨w2.heap.size,3,none⟩) (hne _ hlR));have HA7:Hid (Bx w7 _ _ _):=hJ (hfold7 ▸ ((HA5.out.other (a:=⟨w2.heap.size,1,none⟩) (hne _ hlA)).other (a:=⟨w2.heap.size,2,none⟩) (hne _ hlA)).other (a:=⟨w2.heap.size,3,none⟩) (hne _ hlA));have HG7:Hid (Bx w7 _ _ _):=hJ (hfold7 ▸ ((HG5.out.set 1 (.string y.elem)).set 2 (.string y.shape.row)).set 3 (.slice a5 y.shape.dims.length c5));have HO7:Hid (Own RTyp 27 (fun q=>w2.heap.size<q) w7 _ _ _):=hJ (hfold7 ▸ (((HO.out.below hb5).set (a:=⟨w2.heap.size,1,none⟩) _ (fun q hq=>Nat.ne_of_gt hq) (Nat.lt_succ_self _)).set (a:=⟨w2.heap.size,2,none⟩) _ (fun q hq=>Nat.ne_of_gt hq) (Nat.lt_succ_self _)).set (a:=⟨w2.heap.size,3,none⟩) _ (fun q hq=>Nat.ne_of_gt hq) (Nat.lt_succ_self _));have HS7:Hid (Sl RLin (fun q=>w2.heap.size<q) w7 _ _ _ _):=hJ (hfold7 ▸ (((hs5.mono (S':=fun q=>w2.heap.size<q) (fun q hq _=>by have hq:wr.heap.size≤q:=hq;omega)).set (ad:=⟨w2.heap.size,1,none⟩) (fun q hq=>Nat.ne_of_lt hq)).set (ad:=⟨w2.heap.size,2,none⟩) (fun q hq=>Nat.ne_of_lt hq)).set (ad:=⟨w2.heap.size,3,none⟩) (fun q hq=>Nat.ne_of_lt hq));have HB7:Hid (Below w2.heap.size w2 w7):=hJ (by rw [← hfold7];exact (((hB.trans (hb5.mono hB.size)).setCell (by exact zR _) _).setCell (by exact zR _) _).setCell (by exact zR _) _);have g4:=HA7.out.cell 4 _ rfl;have hl7:=HG7.out.lt;clear HCx HG HO HAr HRr HA2 HR2 HG5 HR5 HA5 HB5 hb5 hs5 hB HBw
      go_wp2_with fail
      have HMore:Hid (∀ W:World,W.heap[w.heap.size]? =w7.heap[w.heap.size]? →W.cell? ⟨w.heap.size,4,none⟩=some (.slice aq m cq)):=hJ (fun W q=>Bx.cell (w:=W) (q.trans HA7.out) 4 _ rfl)
      go_loopw [60] (fun i wt=>∃ (k:Nat) (v0:Value),k≤m∧i= .int .i64 k∧Hid (∀ j,j<k→kAB (kAD b (s.wh.getD j default))=true)∧Hid (Own RLin 40 (fun q=>w7.heap.size≤q) wt w7.heap.size v0 ((s.wh.take k).map (kAD b)))∧Hid (Bx wt w2.heap.size 29 [.slice a0 m0 c0,.string y.elem,.string y.shape.row,.slice a5 y.shape.dims.length c5,v0])∧Below w2.heap.size w2 wt∧Hid (∀ q,q<w7.heap.size→q≠w2.heap.size→wt.heap[q]? =w7.heap[q]?)∧w7.heap.size≤wt.heap.size) (fun i _=>m - (intOf i).toNat)
      case atStart=>exact ⟨0,_,Nat.zero_le _,rfl,hJ (fun i hi=>absurd hi (by omega)),hJ (Own.nil _ _ _ _ _),HG7,HB7.out,hJ (fun _ _ _=>rfl),zR _⟩
      case round =>
       clear HG7;obtain ⟨k,v0,hk,rfl,HTw,HOw,HG,hB,HKeep,hsz⟩:=hrel;have HBw:=hJ (HW.out.trans (hB.mono HW.out.size));have HRr:Hid (Bx wr _ _ _):=hJ ((HKeep.out _ HR7.out.lt (by omega)).trans HR7.out);have hlG:=HG.out.lt;have hlR:=HRr.out.lt;obtain ⟨a6,m6,c6,rfl⟩:=HOw.out.shape;have y4:=HMore.out wr (HKeep.out _ (by omega) (by omega));by_cases hlt:k<m
       · obtain ⟨b1,off,rfl,hbW,_⟩:=HQs.out.form k hlt
         obtain ⟨t,hr,⟨at_,ct,rfl,hts⟩,e0,e1⟩:=(HQs.out.below HBw.out).lin k hlt;have HK:Hid (k<s.wh.length):=hJ (by rw [HM.out];exact hlt);have HNext:Hid ((s.wh.take (k+1)).map (kAD b)=(s.wh.take k).map (kAD b)++[kAD b (s.wh.getD k default)]):=hJ (by rw [kAU HK.out,List.map_append];rfl);have hkl:((s.wh.take k).map (kAD b)).length=k:=by rw [List.length_map,zN,HM.out];omega
         have HBad:=hJ (fun q=>sch_badW (b:=b) HK.out q);have HUp:=hJ (fun q=>upto HTw.out (p:=fun j=>kAB (kAD b (s.wh.getD j default))=true) q);have HXv:=hJ (HV.out.2.2.2.2 _ (kAM HK.out));generalize s.wh.getD k default=x at *;generalize (s.wh.take k).map (kAD b)=lk at *;have hA:Below wr.heap.size wr (wr.alloc (.cells #[.int .i64 x.const,.slice at_ x.terms.length ct] 40)):=(zB _ _).alloc (zR _) _;have HCx:=hJ (HCL.out _ (HBw.out.trans (hA.mono HBw.out.size)) x _ (RLin.below hr hA) HXv.out);clear hr hts;cases hvx:kAB (kAD b x) with
         | false =>
           have HBd:=hJ (HBad.out hvx);rw [(lim_bad hvx).2] at HCx;clear hvx;generalize limL (kAD b x)=z at *
           go_wp2_with fail
           refine HCx.out.mono ?_;rintro e w5 ⟨⟨_,rfl,hr5⟩,hb5⟩;obtain ⟨_,rfl,a8,c8,rfl,hs5⟩:=hr5;have HP5:=hJ ((Bx.fresh wr 40 [.int .i64 x.const,.slice at_ x.terms.length ct]).below hb5 (Bx.fresh _ _ _).lt);have p0:=HP5.out.cell 0 _ rfl;have p1:=HP5.out.cell 1 _ rfl;have u10:=HP5.out.fz 0;have u11:=HP5.out.fz 1;have HB5:=hJ (hA.trans (hb5.mono (by simp)));have HR5:=hJ (HRr.out.below HB5.out HRr.out.lt);obtain ⟨w8,hfold8⟩:∃ q,(w5.setCell ⟨wr.heap.size,0,none⟩ (.int .i64 z.const)).setCell ⟨wr.heap.size,1,none⟩ (.slice a8 z.terms.length c8)=q:=⟨_,rfl⟩
           have HRw:=hJ (HR5.out.other2 (g':=wr.heap.size) (by omega) (.int .i64 z.const) (.slice a8 z.terms.length c8));rw [hfold8] at HRw;have HWw:Hid (Below w.heap.size w w8):=hJ (by rw [← hfold8];exact ((HBw.out.trans (HB5.out.mono HBw.out.size)).setCell (by show _≤wr.heap.size;omega) _).setCell (by show _≤wr.heap.size;omega) _);have v0:=HRw.out.cell 0 _ rfl;have v1:=HRw.out.cell 1 _ rfl;have v2:=HRw.out.cell 2 _ rfl;have v3:=HRw.out.cell 3 _ rfl;have v4:=HRw.out.cell 4 _ rfl;have u0:=HRw.out.fz 0;have u1:=HRw.out.fz 1;have u2:=HRw.out.fz 2;have u3:=HRw.out.fz 3;have u4:=HRw.out.fz 4;have hlr:=HRw.out.lt;have HX60:=hJ (((((HRw.out.set 0 (.slice none 0 0)).set 1 (.string ⟨#[]⟩)).set 2 (.string ⟨#[]⟩)).set 3 (.slice none 0 0)).set 4 (.slice none 0 0));have s0:=HX60.out.cell 0 _ rfl;have s1:=HX60.out.cell 1 _ rfl;have s2:=HX60.out.cell 2 _ rfl;have s3:=HX60.out.cell 3 _ rfl;have s4:=HX60.out.cell 4 _ rfl
           go_wp2_with fail
           refine bodyPost_ret (v:=.tuple #[.agg #[.slice none 0 0,.string ⟨#[]⟩,.string ⟨#[]⟩,.slice none 0 0,.slice none 0 0],.int .i64 3]) (by simp [results,results12,go_sem,s0,s1,s2,s3,s4,hlr]) rfl ?_;refine ⟨⟨[.slice none 0 0,.string ⟨#[]⟩,.string ⟨#[]⟩,.slice none 0 0,.slice none 0 0],by rw [HBd.out.2],by rw [HBd.out.1];exact kE8.no ..⟩,?_⟩
           repeat (first | exact HWw.out | refine Below.setCell ?_ (by show _≤w.heap.size+1;omega) _)
         | true =>
           have HUp2:=hJ (HUp.out hvx);clear HUp;rw [(kE1 hvx).1,(kE1 hvx).2] at HCx;clear hvx HBad
           go_wp2_with fail
           refine HCx.out.mono ?_;rintro e w5 ⟨⟨_,rfl,hr5⟩,hb5⟩;obtain ⟨_,rfl,a8,c8,rfl,hs5⟩:=hr5;generalize kAD b x=z at *;have HP5:=hJ ((Bx.fresh wr 40 [.int .i64 x.const,.slice at_ x.terms.length ct]).below hb5 (Bx.fresh _ _ _).lt);have p0:=HP5.out.cell 0 _ rfl;have p1:=HP5.out.cell 1 _ rfl;have u10:=HP5.out.fz 0;have u11:=HP5.out.fz 1;have HB5:=hJ (hA.trans (hb5.mono (by simp)));obtain ⟨w8,hfold8⟩:∃ q,(w5.setCell ⟨wr.heap.size,0,none⟩ (.int .i64 z.const)).setCell ⟨wr.heap.size,1,none⟩ (.slice a8 z.terms.length c8)=q:=⟨_,rfl⟩
           have HB8:Hid (Below wr.heap.size wr w8):=hJ (by rw [← hfold8];exact (HB5.out.setCell (by exact zR _) _).setCell (by exact zR _) _);have HP8:=hJ ((HP5.out.set 0 (.int .i64 z.const)).set 1 (.slice a8 z.terms.length c8));rw [hfold8] at HP8;have r0:=HP8.out.cell 0 _ rfl;have r1:=HP8.out.cell 1 _ rfl
           have HS8:Hid (Sl kA7 (fun q=>wr.heap.size≤q) w8 a8 z.terms.length c8 z.terms):=hJ (by
            rw [← hfold8]
            have h1:=hs5.mono (S':=fun q=>wr.heap.size<q) (fun q hq _=>by have hq:wr.heap.size+1≤q:=by simpa using hq
                                                                          omega)
            refine Sl.mono (S:=fun q=>wr.heap.size<q) ?_ (fun q hq _=>Nat.le_of_lt hq);exact (h1.set (fun q hq=>Nat.ne_of_lt hq)).set (fun q hq=>Nat.ne_of_lt hq))
           clear hs5 hb5 HP5;have HG8:=hJ (HG.out.below HB8.out hlG);have g4:=HG8.out.cell 4 _ rfl;have hs8:=HB8.out.size;have HRY:Hid (RLin.rd (fun q=>w7.heap.size≤q∧(Value.slice a6 m6 c6).ownBlock≠some q) w8 [.int .i64 z.const,.slice a8 z.terms.length c8] z):=hJ ⟨_,rfl,a8,c8,rfl,HS8.out.mono (fun q hq _=>⟨by have:wr.heap.size≤q:=hq;omega,fun e=>by have h8:=(HOw.out.block e).2;have:wr.heap.size≤q:=hq;omega⟩)⟩;clear HS8
           go_wp2_with (at_builtin;refine kA1 kA2 rfl _ _ rfl w7.heap.size _ _ rfl ((HOw.out.below HB8.out).alloc _) _ z [.int .i64 z.const,.slice a8 z.terms.length c8] rfl (RLin.below HRY.out ((zB _ _).alloc (zR _) _)) (kA3 40 (by (simp only [kAJ,kAF,Array.getElem?_push,Array.size_push];simp))) (by omega) (by unfold maxLen;omega) (by simp;omega) ?_;intro v9 w9 hown9 hb9 hk9;obtain ⟨a9,m9,c9,rfl⟩:=hown9.shape;have HG9:=hJ ((HG8.out.alloc _).kp hk9 (HOw.out.ne hl7));have g9:=HG9.out.cell 4 _ rfl;have u9:=HG9.out.fz 4)
           go_roundw
           case rel=>exact ⟨k+1,_,by omega,by go_num,HUp2,hJ (by rw [HNext.out];exact hown9.set _ (fun q hq=>Nat.ne_of_gt (Nat.lt_of_lt_of_le hl7 hq)) hl7),hJ (HG9.out.set 4 _),((hB.trans (HB8.out.mono hB.size)).trans (((zB _ _).alloc (by omega) _).trans (hb9.mono (Nat.le_of_lt hl7)))).setCell (zR _) _,hJ (fun q hq hne=>(kAA (fun e=>hne e.symm)).trans ((((zB _ _).alloc (B:=w7.heap.size) (by omega) _).trans hb9).block q hq |>.trans ((HB8.out.block q (by omega)).trans (HKeep.out q hq hne)))),by have:=hb9.size;simp at this ⊢;omega⟩
           case measure=>simp [intOf];omega
       · obtain rfl:k=m:=by omega
         replace HS7:=hJ (HS7.out.mono (S':=fun q=>X q∨w2.heap.size<q) (fun q hq _=>.inr hq));replace HO7:=hJ (HO7.out.mono (S':=fun q=>X q∨w2.heap.size<q) (fun q hq _=>.inr hq));have HAll:Hid ((s.wh.take k).map (kAD b)=s.wh.map (kAD b)):=hJ (by rw [zT (by rw [HM.out];exact zR _)]);rw [HAll.out] at HOw;obtain ⟨z1,z2⟩:=HGood.out HT.out HokR.out HTw.out;have HZ1:=hJ z1;have HZ2:=hJ z2;clear z1 z2;have g0:=HG.out.cell 0 _ rfl;have g1:=HG.out.cell 1 _ rfl;have g2:=HG.out.cell 2 _ rfl;have g3:=HG.out.cell 3 _ rfl;have g4:=HG.out.cell 4 _ rfl;have v0:=HRr.out.cell 0 _ rfl;have v1:=HRr.out.cell 1 _ rfl;have v2:=HRr.out.cell 2 _ rfl;have v3:=HRr.out.cell 3 _ rfl;have v4:=HRr.out.cell 4 _ rfl;have u0:=HRr.out.fz 0;have u1:=HRr.out.fz 1;have u2:=HRr.out.fz 2;have u3:=HRr.out.fz 3;have u4:=HRr.out.fz 4;have hlr:=HRr.out.lt;have HX60:=hJ (((((HRr.out.set 0 (.slice a0 m0 c0)).set 1 (.string y.elem)).set 2 (.string y.shape.row)).set 3 (.slice a5 y.shape.dims.length c5)).set 4 (.slice a6 m6 c6));have s0:=HX60.out.cell 0 _ rfl;have s1:=HX60.out.cell 1 _ rfl;have s2:=HX60.out.cell 2 _ rfl;have s3:=HX60.out.cell 3 _ rfl;have s4:=HX60.out.cell 4 _ rfl
         go_wp2_with fail
         refine bodyPost_ret (v:=.tuple #[.agg #[.slice a0 m0 c0,.string y.elem,.string y.shape.row,.slice a5 y.shape.dims.length c5,.slice a6 m6 c6],.int .i64 0]) (by simp [results,results12,go_sem,s0,s1,s2,s3,s4,hlr]) rfl ?_;refine ⟨⟨[.slice a0 m0 c0,.string y.elem,.string y.shape.row,.slice a5 y.shape.dims.length c5,.slice a6 m6 c6],by rw [HZ2.out],?_⟩,?_⟩
         · rw [HZ1.out]
           refine kFD.plain (X:=X) ?_ HX0.out
           have hXq:∀ q,(X q∨w2.heap.size<q)→w2.heap.size≠q∧w.heap.size+1≠q∧(X q∨w.heap.size≤q):=fun q hq=>by
            rcases hq with r | r
            · have:=HXw.out q r;exact ⟨by omega,by omega,.inl r⟩
            · exact ⟨by omega,by omega,.inr (by omega)⟩
           have q2:=(HS7.out.mono (S':=fun q=>(X q∨w2.heap.size<q)∧q<w7.heap.size) (fun q hq hlt=>⟨hq,hlt⟩)).frame (w':=wr) (fun q hq hlt=>HKeep.out q hlt (Ne.symm (hXq q hq.1).1));obtain ⟨a10,c10,e10,q1⟩:=HO7.out.sl;have q1:=(q1.mono (S':=fun q=>(X q∨w2.heap.size<q)∧q<w7.heap.size) (fun q hq hlt=>⟨hq.elim id .inr,hlt⟩)).frame (w':=wr) (fun q hq hlt=>HKeep.out q hlt (Ne.symm (hXq q hq.1).1));rw [Value.slice.injEq] at e10;obtain ⟨rfl,rfl,rfl⟩:=e10
           have hR2:∀ {α :Type} {R:Rep α} {a:Option Addr} {n c:Nat} {l:List α},Sl R (fun q=>(X q∨w2.heap.size<q)∧q<w7.heap.size) wr a n c l→Sl R (fun k=>(X k∨w.heap.size≤k)∧k<w7.heap.size) (((((wr.setCell ⟨w.heap.size+1,0,none⟩ (.slice a0 (s.params.map (kAP b)).length c0)).setCell ⟨w.heap.size+1,1,none⟩ (.string y.elem)).setCell ⟨w.heap.size+1,2,none⟩ (.string y.shape.row)).setCell ⟨w.heap.size+1,3,none⟩ (.slice a5 y.shape.dims.length c5)).setCell ⟨w.heap.size+1,4,none⟩ (.slice a6 m6 c6)) a n c l:=by
            intro α R a n c l hs;have hne:∀ q,((X q∨w2.heap.size<q)∧q<w7.heap.size)→w.heap.size+1≠q:=fun q hq=>(hXq q hq.1).2.1
            exact (((((hs.set hne).set hne).set hne).set hne).set hne).mono (fun q hq _=>⟨(hXq q hq.1).2.2,hq.2⟩)
           have hS3:∀ q,w7.heap.size≤q→q≠w.heap.size+1:=fun q hq=>by omega
           have hl3:w.heap.size+1<w7.heap.size:=by omega
           refine ⟨w7.heap.size,_,_,_,by omega,by rw [HY.out];rfl,⟨a0,c0,rfl,hR2 q1⟩,⟨a5,c5,by first | rfl | (rw [HY.out];rfl),?_⟩,((((HOw.out.set _ hS3 hl3).set _ hS3 hl3).set _ hS3 hl3).set _ hS3 hl3).set _ hS3 hl3⟩;have:=hR2 q2
           show Sl RLin _ _ a5 (kAP b s.result).shape.dims.length c5 (kAP b s.result).shape.dims
           rw [← HY.out];exact this
         · repeat (first | exact HBw.out | refine Below.setCell ?_ (by show _≤w.heap.size+1;omega) _)
def kDF (s:Sch):Int:=if kAI s then kBT (ren (kAG s)) s else 1
theorem can_no {s:Sch} (h:kAI s=false):kDF s=1∧can s=kEQ:=by
 unfold kDF can canOk kBO;rw [h];exact ⟨rfl,rfl⟩
theorem can_bad {s:Sch} (hv:kAI s=true) (h:kBO (ren (kAG s)) s=false):kDF s=3∧can s=kEQ:=by
 unfold kDF can canOk;rw [hv,h,(sch_no h).2];exact ⟨rfl,rfl⟩
theorem can_good {s:Sch} (hv:kAI s=true) (h:kBO (ren (kAG s)) s=true):kDF s=0∧can s=⟨s.params.map (kAP (ren (kAG s))),kAP (ren (kAG s)) s.result,tidy (s.wh.map (kAD (ren (kAG s))))⟩:=by
 unfold kDF can canOk;rw [hv,h];refine ⟨?_,rfl⟩
 show kBT _ _=0
 unfold kBT;rw [h];rfl
theorem ren_plain {l:List Bnd} (h:InvV l):kCF (ren l):=by
 intro y hy;obtain ⟨i,hi,rfl⟩:=List.mem_map.1 hy;have hi:=List.mem_range.1 hi;have hb:=(h.good _ (kAM hi)).1;unfold kE9 renB;generalize l.getD i default=x at *
 split
 · show x.row.dims=[];rw [hb];rfl
 · split
   · show x.row.dims=[];rw [hb];rfl
   · show x.row.dims=[];rw [hb];rfl
theorem Raw.set2 {k:Nat} {E:TypeId} {w:World} {g:Nat} {css:List (List Value)} {rest:List Value} (h:Raw k E w g css rest) {i:Nat} {cs:List Value} (hi:css[i]? =some cs) {j j2:Nat} (hj:j<k) (hj2:j2<k) (u u2:Value):Raw k E ((w.setCell ⟨g,i * k+j,none⟩ u).setCell ⟨g,i * k+j2,none⟩ u2) g (css.set i ((cs.set j u).set j2 u2)) rest:=by
 have hl:i<css.length:=by
  rcases zF i css.length with q | q
  · exact q
  · rw [List.getElem?_eq_none q] at hi;cases hi
 have h2:=(h.set hi hj u).set (i:=i) (cs:=cs.set j u) (List.getElem?_set_self hl) hj2 u2
 rwa [List.set_set] at h2
theorem itoa_nat (n:Nat) (hn:n≤100000) (w:World) (E:Env w):Calls Tryz.prog 21 #[.int .i64 n] w fun e w'=>e= .returned (.string (decS n))∧Below w.heap.size w w':=by
 have h:=kHP (n:Int) (by omega) (by omega) w E;have e:Lib.itoa (n:Int)=Lib.decDigits n:=by unfold Lib.itoa;rw [if_neg (by omega)];simp
 rw [e] at h;exact h
theorem canonical_1 {S:Blk} {x:Lin} {cs:List Value} {w:World} (h:RLin.rd S w cs x) :
 Calls Tryz.prog 24 #[.agg cs.toArray] w fun e w'=>e= .returned (.bool (kGO x))∧Below w.heap.size w w':=by
 have HC:=hJ (fun (W:World) (hW:Below w.heap.size w W)=>linear_Const (RLin.below h hW));obtain ⟨t,rfl,a,c,rfl,hs⟩:=h;have HD:Hid (kGO x=(x.terms.length==0 && decide (0≤x.const))):=hJ rfl;clear hs;obtain ⟨B0,ya,hW0⟩:=box1 w 40 [.int .i64 x.const,.slice a x.terms.length c];have xa0:=box0 ya 0 _ rfl;have xa1:=box0 ya 1 _ rfl;clear ya;generalize x.terms.length=n at *;by_cases h0:n=0
 · have HC2:Hid (∀ W,Below w.heap.size w W→Calls Tryz.prog 25 #[.agg #[.int .i64 x.const,.slice a n c]] W fun e w'=>e= .returned (.tuple #[.int .i64 x.const,.bool true])∧Below W.heap.size W w'):=hJ (fun W hW=>by have:=HC.out W hW;rwa [if_pos h0,decide_eq_true h0] at this)
   have HD2:Hid (kGO x=decide (0≤x.const)):=hJ (by rw [HD.out,show (n==0)=true by simpa using h0];rfl);clear HC h0;go_enter func24,ntmps24
   go_wp2_with fail
   refine (HC2.out _ B0.out).mono ?_;rintro e w1 ⟨rfl,hb⟩
   go_wp2_with fail
   go_ret;exact ⟨by rw [HD2.out];rfl,B0.out.trans (hb.mono B0.out.size)⟩
 · have HC2:Hid (∀ W,Below w.heap.size w W→Calls Tryz.prog 25 #[.agg #[.int .i64 x.const,.slice a n c]] W fun e w'=>e= .returned (.tuple #[.int .i64 0,.bool false])∧Below W.heap.size W w'):=hJ (fun W hW=>by have:=HC.out W hW;rwa [if_neg h0,decide_eq_false h0] at this)
   have HD2:Hid (kGO x=false):=hJ (by rw [HD.out,show (n==0)=false by simpa using h0];rfl);clear HC h0;go_enter func24,ntmps24
   go_wp2_with fail
   refine (HC2.out _ B0.out).mono ?_;rintro e w1 ⟨rfl,hb⟩
   go_wp2_with fail
   go_ret;exact ⟨by rw [HD2.out];rfl,B0.out.trans (hb.mono B0.out.size)⟩
theorem ins_perm (s:Str) (c:Int):∀ (l:List Coef),(∀ t ∈ l,seq t.v s=false)→(ins s c l).Perm (⟨s,c⟩ :: l)
 | [],_=>List.Perm.refl _
 | t :: l,h=>by
   unfold ins
   split
   · exact List.Perm.refl _
   · rw [if_neg (by rw [h t (zM ..)];decide)]
     exact ((ins_perm s c l (fun u hu=>h u (zO _ hu))).cons t).trans (List.Perm.swap _ _ _)
theorem plus_perm {l:List Coef} (hs:Srt l) (hz:Nz l) {s:Str} {c:Int} (hc:c≠0) (h:∀ t ∈ l,seq t.v s=false):(plus l s c).Perm (⟨s,c⟩ :: l):=by
 unfold plus;rw [kEM hs];have hp:=ins_perm s c l h
 have e:(ins s c l).filter nzB=ins s c l:=List.filter_eq_self.2 fun t ht=>by
  have:t.c≠0:=by
   rcases List.mem_cons.1 (hp.mem_iff.1 ht) with q | q
   · rw [q];exact hc
   · exact hz t q
  unfold nzB;exact bne_iff_ne.2 this
 rw [e];exact hp
def renT (f:Str→Str) (l:List Coef):List Coef:=l.map (fun t=>⟨f t.v,t.c⟩)
structure RunOk (f:Str→Str) (c:Int) (done:List Coef) (acc:Lin):Prop where
 con:acc.const=c
 srt:Srt acc.terms
 nz:Nz acc.terms
 perm:acc.terms.Perm (renT f done)
theorem RunOk.step {f:Str→Str} {c:Int} {done:List Coef} {acc:Lin} (h:RunOk f c done acc) {t:Coef} (ht:t.c≠0) (hn:∀ d ∈ done,f d.v≠f t.v):RunOk f c (done++[t]) (kCJ acc (varL (f t.v)) t.c):=by
 have e:(kCJ acc (varL (f t.v)) t.c).terms=plus acc.terms (f t.v) t.c:=by
  show plus acc.terms (f t.v) (t.c * 1)=_
  rw [Int.mul_one]
 refine ⟨?_,?_,?_,?_⟩
 · show acc.const+t.c * 0=c
   rw [Int.mul_zero,Int.add_zero];exact h.con
 · rw [e];exact kHM h.srt _ _
 · rw [e];exact plus_nz _ _ _
 · rw [e]
   have hp:=plus_perm h.srt h.nz ht (s:=f t.v) (fun u hu=>by
    obtain ⟨d,hd,q⟩:=List.mem_map.1 (h.perm.mem_iff.1 hu);rw [Bool.eq_false_iff];intro q2;have q3:=(kA6 _ _).1 q2;rw [← q] at q3;exact hn d hd q3)
   refine hp.trans ?_;unfold renT;rw [List.map_append];exact ((h.perm).cons _).trans (List.perm_append_singleton _ _).symm
theorem subRun_ren {b:List Bnd} {f:Str→Str} {c:Int}:∀ (ts done:List Coef) (acc:Lin),(∀ t ∈ ts,sub1 b t.v=varL (f t.v)∧t.c≠0)→(done++ts).Pairwise (fun a b=>f a.v≠f b.v)→RunOk f c done acc→RunOk f c (done++ts) (ts.foldl (fun acc t=>kCJ acc (sub1 b t.v) t.c) acc)
 | [],done,acc,_,_,h=>by rw [List.append_nil];exact h
 | t :: ts,done,acc,hs,hp,h=>by
   have h1:=hs t (zM ..);have hn:∀ d ∈ done,f d.v≠f t.v:=fun d hd=>(List.pairwise_append.1 hp).2.2 d hd t (zM ..)
   have:=subRun_ren (b:=b) ts (done++[t]) _ (fun u hu=>hs u (zO _ hu)) (by rw [List.append_assoc];exact hp) (h.step h1.2 hn);rw [List.append_assoc,← h1.1] at this;exact this
theorem validLin_mk {x:Lin} (h1:Srt x.terms) (h2:Nz x.terms) (h3:Bd 1000000 x.terms) (h4:∀ t ∈ x.terms,kAZ t.v=true) (h5: -1000000≤x.const∧x.const≤1000000) (h6:x.terms.length≤12):kAB x=true:=by
 unfold kAB;have hc:kCD x.const=true:=by unfold kCD;exact decide_eq_true h5
 have ht:kGQ x.terms=true:=by
  unfold kGQ;rw [List.all_eq_true];intro i hi;have hi:=List.mem_range.1 hi;have hm:=kAM hi;unfold kFI;have q2:((x.terms.getD i default).c != 0)=true:=bne_iff_ne.2 (h2 _ hm);have q3:kCD (x.terms.getD i default).c=true:=by unfold kCD;exact decide_eq_true (h3 _ hm)
  rw [h4 _ hm,q2,q3];rcases Nat.eq_zero_or_pos i with q | q
  · subst q;rfl
  · have:slt (x.terms.getD (i - 1) default).v (x.terms.getD i default).v=true:=by
     have:=List.pairwise_iff_getElem.1 h1 (i - 1) i (by omega) hi (by omega);rw [zD,zG (show i - 1<x.terms.length by omega),zD,zG hi];exact this
    rw [this];simp
 rw [hc,ht,decide_eq_true h6];rfl
theorem subRaw_ok {b:List Bnd} {f:Str→Str} {x:Lin} (hx:kAB x=true) (hs:∀ t ∈ x.terms,sub1 b t.v=varL (f t.v)∧kAZ (f t.v)=true) (hi:x.terms.Pairwise (fun a b=>f a.v≠f b.v)):kAB (kAD b x)=true:=by
 obtain ⟨q1,q2,q3,q4,q5,q6⟩:=kAV hx;have h:=subRun_ren (b:=b) (f:=f) (c:=x.const) x.terms [] ⟨x.const,[]⟩ (fun t ht=>⟨(hs t ht).1,q2 t ht⟩) hi ⟨rfl,List.Pairwise.nil,fun t ht=>by simp at ht,List.Perm.refl _⟩;rw [List.nil_append] at h
 have hm:∀ u ∈ (kAD b x).terms,∃ t ∈ x.terms,u=⟨f t.v,t.c⟩:=fun u hu=>by
  obtain ⟨t,ht,q⟩:=List.mem_map.1 (h.perm.mem_iff.1 hu);exact ⟨t,ht,q.symm⟩
 refine validLin_mk h.srt h.nz ?_ ?_ ?_ ?_
 · intro u hu;obtain ⟨t,ht,rfl⟩:=hm u hu;exact q3 t ht
 · intro u hu;obtain ⟨t,ht,rfl⟩:=hm u hu;exact (hs t ht).2
 · have:(kAD b x).const=x.const:=h.con
   rw [this];exact q5
 · have:(kAD b x).terms.length=x.terms.length:=by
    have:=h.perm.length_eq;unfold renT at this;rw [List.length_map] at this;exact this
   omega
def Has (l:List Bnd) (k:Int) (v:Str):Prop:=l.any (isB k v)=true
theorem kCR {k:Int} {v:Str} {x:Bnd}:isB k v x=true ↔ x.kind=k∧x.v=v:=by
 unfold isB;rw [zA,beq_iff_eq];exact ⟨fun h=>⟨h.1,(kA6 x.v v).1 h.2⟩,fun h=>⟨h.1,(kA6 x.v v).2 h.2⟩⟩
theorem has_app {l m:List Bnd} {k:Int} {v:Str} (h:Has l k v):Has (l++m) k v:=by unfold Has at *;rw [List.any_append,h];rfl
theorem Has.add {l:List Bnd} {k:Int} {v:Str} (h:Has l k v) (k':Int) (v':Str):Has (addV l k' v') k v:=by
 unfold addV
 split
 · exact h
 · exact has_app h
theorem has_add (l:List Bnd) (k:Int) (v:Str):Has (addV l k v) k v:=by
 unfold addV
 split
 · next q =>
   cases e:l.any (isB k v) with
   | true=>exact e
   | false=>have:=kCU.2 e;omega
 · unfold Has
   rw [List.any_append];have:isB k v (bare k v)=true:=kCR.2 ⟨rfl,rfl⟩;simp [this]
theorem has_all {k:Int} {v:Str}:∀ (ns:List Str) (l:List Bnd),Has l k v→Has (addAll l ns) k v
 | [],l,h=>h
 | n :: ns,l,h=>has_all ns (addV l 1 n) (h.add 1 n)
theorem has_in {n:Str}:∀ (ns:List Str) (l:List Bnd),n ∈ ns→Has (addAll l ns) 1 n
 | [],l,h=>by simp at h
 | m :: ns,l,h=>by
   show Has (addAll (addV l 1 m) ns) 1 n
   rcases List.mem_cons.1 h with q | q
   · rw [q];exact has_all ns _ (has_add l 1 m)
   · exact has_in ns _ q
theorem has_bs {k:Int} {v:Str}:∀ (vs l:List Bnd),Has l k v→Has (addBs l vs) k v
 | [],l,h=>h
 | x :: vs,l,h=>has_bs vs (addV l x.kind x.v) (h.add _ _)
theorem has_bin {k:Int} {v:Str}:∀ (vs l:List Bnd),Has vs k v→Has (addBs l vs) k v
 | [],l,h=>by unfold Has at h;simp at h
 | x :: vs,l,h=>by
   show Has (addBs (addV l x.kind x.v) vs) k v
   unfold Has at h;rw [List.any_cons,Bool.or_eq_true] at h;rcases h with q | q
   · have e:=kCR.1 q
     refine has_bs vs _ ?_;have:=has_add l x.kind x.v
     rwa [e.1,e.2] at this ⊢
   · exact has_bin vs _ q
theorem has_run {k:Int} {v:Str}:∀ (l:List Typ) (o:List Bnd),Has o k v→Has (l.foldl (fun o t=>addBs o (kBN t)) o) k v
 | [],o,h=>h
 | t :: l,o,h=>has_run l (addBs o (kBN t)) (has_bs _ _ h)
theorem has_runIn {k:Int} {v:Str} {t:Typ} (hv:Has (kBN t) k v):∀ (l:List Typ) (o:List Bnd),t ∈ l→Has (l.foldl (fun o t=>addBs o (kBN t)) o) k v
 | [],o,h=>by simp at h
 | u :: l,o,h=>by
   rw [List.foldl_cons];rcases List.mem_cons.1 h with q | q
   · rw [← q];exact has_run l _ (has_bin _ _ hv)
   · exact has_runIn hv l _ q
theorem has_varsTy {t:Typ} (h:kAH t=true) {x:Lin} (hx:x ∈ t.shape.dims) {n:Str} (hn:n ∈ kAL x):Has (kBN t) 1 n:=by
 have hs:kAK t.shape=true:=by unfold kAH at h;rw [zA] at h;exact h.2
 have hv:Has (kC3 t.shape) 1 n:=by
  unfold kC3;rw [if_pos hs];exact has_in _ _ (List.mem_flatMap.2 ⟨x,hx,hn⟩)
 unfold kBN;rw [if_pos h]
 split
 · exact hv.add _ _
 · exact hv
theorem has_sch {s:Sch} (h:kAI s=true) {t:Typ} (ht:t ∈ allT s) {x:Lin} (hx:x ∈ t.shape.dims) {n:Str} (hn:n ∈ kAL x):Has (kAG s) 1 n:=by
 unfold kAG;rw [if_pos h];exact has_all _ _ (has_runIn (has_varsTy (kBV h t ht) hx hn) _ _ ht)
theorem has_wh {s:Sch} (h:kAI s=true) {x:Lin} (hx:x ∈ s.wh) {n:Str} (hn:n ∈ kAL x):Has (kAG s) 1 n:=by
 unfold kAG;rw [if_pos h];exact has_in _ _ (List.mem_flatMap.2 ⟨x,hx,hn⟩)
def dval (l:List UInt8):Nat:=l.foldl (fun a c=>a * 10+(c.toNat - 48)) 0
theorem dval_dec (n:Nat):dval (Lib.decDigits n)=n:=by
 induction n using Nat.strongRecOn with
 | ind n ih =>
   rw [Lib.decDigits]
   split
   · next h =>
     show 0 * 10+((UInt8.ofNat (48+n)).toNat - 48)=n
     rw [UInt8.toNat_ofNat_of_lt' (by show 48+n<256;omega)];omega
   · next h =>
     have:=ih (n / 10) (by omega);unfold dval at *;rw [List.foldl_append,this]
     show n / 10 * 10+((UInt8.ofNat (48+n % 10)).toNat - 48)=n
     rw [UInt8.toNat_ofNat_of_lt' (by show 48+n % 10<256;omega)];omega
theorem nm_inj {c:UInt8} {a b:Nat} (h:nm c a=nm c b):a=b:=by
 have e:(nm c a).data.toList=(nm c b).data.toList:=by rw [h]
 rw [nm_list,nm_list,List.cons.injEq] at e;have:=congrArg dval e.2
 rwa [dval_dec,dval_dec] at this
theorem cnt_lt {l:List Bnd} {i j:Nat} (hij:i<j) (hj:j<l.length) (hk:(l.getD j default).kind=1):cntK 1 (l.take (i+1))<cntK 1 (l.take (j+1)):=by
 have h1:cntK 1 (l.take (j+1))=cntK 1 (l.take j)+1:=by
  rw [kAU hj];unfold cntK;rw [List.countP_append];generalize l.getD j default=z at *;simp [hk]
 have h2:cntK 1 (l.take (i+1))≤cntK 1 (l.take j):=by
  have e:l.take (i+1)=(l.take j).take (i+1):=by rw [List.take_take,Nat.min_eq_left (by omega)]
  rw [e];exact (List.take_sublist _ _).countP_le
 omega
def renF (l:List Bnd) (v:Str):Str:=nm 110 (cntK 1 (l.take ((ren l).findIdx (isB 1 v)+1)))
theorem ren_hit {l:List Bnd} {v:Str} (h:Has l 1 v):(ren l).any (isB 1 v)=true∧(ren l).findIdx (isB 1 v)<l.length∧(l.getD ((ren l).findIdx (isB 1 v)) default).kind=1∧(l.getD ((ren l).findIdx (isB 1 v)) default).v=v:=by
 have ha:(ren l).any (isB 1 v)=true:=by
  obtain ⟨y,hy,q⟩:=List.any_eq_true.1 h;obtain ⟨j,hj,e⟩:=List.getElem_of_mem hy;have hd:l.getD j default=y:=by rw [zD,zG hj];exact e
  refine List.any_eq_true.2 ⟨(ren l).getD j default,kAM (by rw [kGT];exact hj),?_⟩;rw [ren_at hj];unfold kE9;have k:=kGU (cntK (l.getD j default).kind (l.take (j+1))) (l.getD j default);have q2:=kCR.1 q;exact kCR.2 ⟨by rw [k.1,hd];exact q2.1,by rw [k.2,hd];exact q2.2⟩
 obtain ⟨h1,h2⟩:=kGH ha;rw [kGT] at h1;rw [ren_at h1] at h2;have h2:=kCR.1 h2;generalize (ren l).findIdx (isB 1 v)=i at *;unfold kE9 at h2;have k:=kGU (cntK (l.getD i default).kind (l.take (i+1))) (l.getD i default);rw [k.1,k.2] at h2;exact ⟨ha,h1,h2.1,h2.2⟩
theorem sub1_ren {l:List Bnd} {v:Str} (h:Has l 1 v):sub1 (ren l) v=varL (renF l v):=by
 obtain ⟨h1,h2,h3,h4⟩:=ren_hit h;unfold sub1 bndL renF;rw [if_pos h1,if_pos h1,ren_at h2];generalize (ren l).findIdx (isB 1 v)=i at *;unfold kE9 renB;rw [if_pos h3,h3]
theorem renF_inj {l:List Bnd} {v w:Str} (h1:Has l 1 v) (h2:Has l 1 w) (h:renF l v=renF l w):v=w:=by
 obtain ⟨a1,a2,a3,a4⟩:=ren_hit h1;obtain ⟨b1,b2,b3,b4⟩:=ren_hit h2;have e:=nm_inj h;generalize (ren l).findIdx (isB 1 v)=i at *;generalize (ren l).findIdx (isB 1 w)=j at *;rcases Nat.lt_trichotomy i j with q | q | q
 · have:=cnt_lt q b2 b3;omega
 · rw [← a4,← b4,q]
 · have:=cnt_lt q a2 a3;omega
theorem renF_name {s:Sch} (v:Str):kAZ (renF (kAG s) v)=true:=by
 unfold renF;refine nm_name 110 (by decide) _ ?_;have h1:=cnt_le 1 ((kAG s).take ((ren (kAG s)).findIdx (isB 1 v)+1));have h2:=kB3 (s:=s);rw [zN] at h1;omega
theorem kHC {s:Sch} {x:Lin} (hx:kAB x=true) (hh:∀ n ∈ kAL x,Has (kAG s) 1 n):kAB (kAD (ren (kAG s)) x)=true:=by
 have hv:∀ t ∈ x.terms,Has (kAG s) 1 t.v:=fun t ht=>hh _ (List.mem_map.2 ⟨t,ht,rfl⟩)
 refine subRaw_ok (f:=renF (kAG s)) hx (fun t ht=>⟨sub1_ren (hv t ht),renF_name _⟩) ?_;refine (kAV hx).1.imp_of_mem (fun {a b} ha hb hab e=>?_);have:=renF_inj (hv a ha) (hv b hb) e;rw [this,kCG] at hab;cases hab
theorem row_none {b:List Bnd} (hp:kCF b) (s:Shp):(kBP b s).dims=[]:=by
 unfold kBP
 split
 · rfl
 · split
   · next q=>exact hp _ (kHQ q).1
   · rfl
theorem kDE {s:Sch} (h:kAI s=true):canOk s=true:=by
 have hp:=ren_plain (kA5 h);obtain ⟨h1,h2,h3,h4,h5⟩:=kAO h
 have one:∀ t ∈ allT s,kA0 (ren (kAG s)) t.shape=true:=fun t ht=>by
  have hv:=kBM (kBV h t ht);unfold kA0 dimsOk;rw [zA,List.all_eq_true];refine ⟨fun x hx=>kHC (hv.2.2.2 x hx) (fun n hn=>has_sch h ht hx hn),decide_eq_true ?_⟩;rw [row_none hp];have:=hv.2.2.1
  simpa using this
 unfold canOk kBO;rw [h,kIG h,Bool.true_and,Bool.true_and,zA,zA,List.all_eq_true,List.all_eq_true];refine ⟨fun t ht=>one t (by unfold allT;exact List.mem_append.2 (.inl ht)),one _ (by unfold allT;exact List.mem_append.2 (.inr (List.mem_singleton.2 rfl))),fun x hx=>kHC (h5 x hx) (fun n hn=>has_wh h hx hn)⟩
def ax1:Str:=⟨#[40,91,114,46,46,93,105,110,116,44,32,91,110,93,65,41,32,45,62,32,91,110,93,65,32,119,104,101,114,101,32,110,45,49,44,32,109,43,110]⟩
def as1:Sch:=⟨[⟨⟨#[105,110,116]⟩,⟨⟨#[114]⟩,[]⟩⟩,⟨⟨#[65]⟩,⟨⟨#[]⟩,[⟨0,[⟨⟨#[110]⟩,1⟩]⟩]⟩⟩],⟨⟨#[65]⟩,⟨⟨#[]⟩,[⟨0,[⟨⟨#[110]⟩,1⟩]⟩]⟩⟩,[⟨-1,[⟨⟨#[110]⟩,1⟩]⟩,⟨0,[⟨⟨#[109]⟩,1⟩,⟨⟨#[110]⟩,1⟩]⟩]⟩
theorem av1:kAI as1=true:=by kernel_rfl
def ax2:Str:=⟨#[40,91,114,49,46,46,93,105,110,116,44,32,91,110,49,93,65,49,41,32,45,62,32,91,110,49,93,65,49,32,119,104,101,114,101,32,110,49,45,49,44,32,110,49,43,110,50]⟩
def as2:Sch:=⟨[⟨⟨#[105,110,116]⟩,⟨⟨#[114,49]⟩,[]⟩⟩,⟨⟨#[65,49]⟩,⟨⟨#[]⟩,[⟨0,[⟨⟨#[110,49]⟩,1⟩]⟩]⟩⟩],⟨⟨#[65,49]⟩,⟨⟨#[]⟩,[⟨0,[⟨⟨#[110,49]⟩,1⟩]⟩]⟩⟩,[⟨-1,[⟨⟨#[110,49]⟩,1⟩]⟩,⟨0,[⟨⟨#[110,49]⟩,1⟩,⟨⟨#[110,50]⟩,1⟩]⟩]⟩
theorem av2:kAI as2=true:=by kernel_rfl
def ax3:Str:=⟨#[40,91,110,93,65,41,32,45,62,32,65]⟩
def as3:Sch:=⟨[⟨⟨#[65]⟩,⟨⟨#[]⟩,[⟨0,[⟨⟨#[110]⟩,1⟩]⟩]⟩⟩],⟨⟨#[65]⟩,⟨⟨#[]⟩,[]⟩⟩,[]⟩
theorem av3:kAI as3=true:=by kernel_rfl
def ax4:Str:=⟨#[40,91,51,93,105,110,116,41,32,45,62,32,105,110,116]⟩
def as4:Sch:=⟨[⟨⟨#[105,110,116]⟩,⟨⟨#[]⟩,[⟨3,[]⟩]⟩⟩],⟨⟨#[105,110,116]⟩,⟨⟨#[]⟩,[]⟩⟩,[]⟩
theorem av4:kAI as4=true:=by kernel_rfl
theorem at1:kC4 as1=ax1:=by kernel_rfl
theorem at2:kC4 as2=ax2:=by kernel_rfl
theorem at3:kC4 as3=ax3:=by kernel_rfl
theorem at4:kC4 as4=ax4:=by kernel_rfl
theorem ar1:readS ax1=some as1:=by rw [← at1];exact readS_back av1
theorem ar3:readS ax3=some as3:=by rw [← at3];exact readS_back av3
theorem ar4:readS ax4=some as4:=by rw [← at4];exact readS_back av4
theorem ac1:can as1=as2∧kDF as1=0:=by constructor <;> kernel_rfl
theorem ap2:kGM as2=ax2:=by unfold kGM;rw [if_pos av2];exact at2
structure Kc (B g:Nat) (w w':World):Prop where
 os:w'.os=w.os
 tape:w'.tape=w.tape
 output:w'.output=w.output
 size:w.heap.size≤w'.heap.size
 block:∀ q,q<B→q≠g→w'.heap[q]? =w.heap[q]?
theorem Kc.of_below {B g:Nat} {w w':World} (h:Below B w w'):Kc B g w w':=⟨h.os,h.tape,h.output,h.size,fun q hq _=>h.block q hq⟩
theorem Kc.set {B g:Nat} {a b:World} (h:Kc B g a b) (o:Nat) (u:Value):Kc B g a (b.setCell ⟨g,o,none⟩ u):=⟨h.os,h.tape,h.output,by simpa using h.size,fun q hq hne=>(kAA (fun e=>hne e.symm)).trans (h.block q hq hne)⟩
theorem Kc.later {B g:Nat} {a b c:World} (h:Kc B g a b) (k:Below B b c):Kc B g a c:=⟨k.os.trans h.os,k.tape.trans h.tape,k.output.trans h.output,zE h.size k.size,fun q hq hne=>(k.block q hq).trans (h.block q hq hne)⟩
theorem Sl.void {α :Type} {R:Rep α} {S S':Blk} {w w':World} {a:Option Addr} {c:Nat} (h:Sl R S w a 0 c []):Sl R S' w' a 0 c []:=⟨h.len,h.cap,h.max,h.nil,fun i x hx=>by simp at hx⟩
theorem av3_vars:kAG as3=[⟨1,nnS,⟨0,[]⟩,⟨⟨#[]⟩,[]⟩,⟨#[]⟩⟩,⟨3,aS,⟨0,[]⟩,⟨⟨#[]⟩,[]⟩,⟨#[]⟩⟩]:=by kernel_rfl
theorem bd3_hit:kAW [bd3] 1 nnS=0:=by kernel_rfl
theorem mat_dims {S T U:Blk} {w:World} {bm base:Nat} {ab ap at_:Option Addr} {cb cp ct:Nat} {cs:List Value} (hM:Bx w bm 92 [.slice ab 1 cb,.slice ap 1 cp,.slice at_ 1 ct]) (hB:Own RBnd 42 (fun _=>False) w base (.slice ab 1 cb) [bA]) (hbase:base≤w.heap.size) (hbm:bm<base) (hp:Sl RLin S w ap 1 cp [pL]) (ht:Sl RLin T w at_ 1 ct [tL]) (hs:RSch.rd U w cs as3) (E:Env w) :
 Calls Tryz.prog 54 #[.pointer (some ⟨bm,0,none⟩),.agg cs.toArray] w fun e w'=>e= .returned (.int .i64 0)∧(∃ ad cd,Bx w' bm 92 [.slice ad 2 cd,.slice ap 1 cp,.slice at_ 1 ct]∧Own RBnd 42 (fun _=>False) w' base (.slice ad 2 cd) [bA,bd3])∧Kc base bm w w':=by
 have hml:=hM.lt;have HP:=hJ hp;have HT:=hJ ht;have HV:=hJ (fun (W:World) (hW:Below w.heap.size w W)=>types_Vars (RSch.below hs hW) av3 (E.below hW));rw [av3_vars] at HV;have HE:=hJ (fun (W:World) (hW:Below w.heap.size w W)=>E.below hW);have HM:=hJ hM;have HO:=hJ hB;obtain ⟨_,_,_,rfl,⟨p1,d1,rfl,_⟩,⟨p2,d2,rfl,_⟩,⟨p3,d3,rfl,_⟩⟩:=hs;clear hM hB hp ht E;obtain ⟨B0,ya,hW0⟩:=box1 w 29 [.slice p1 as3.params.length d1,.string as3.result.elem,.string as3.result.shape.row,.slice p2 as3.result.shape.dims.length d2,.slice p3 as3.wh.length d3];have xa0:=box0 ya 0 _ rfl;have xa1:=box0 ya 1 _ rfl;have xa2:=box0 ya 2 _ rfl;have xa3:=box0 ya 3 _ rfl;have xa4:=box0 ya 4 _ rfl;have bka:Bx _ _ _ _:=ya;clear ya;have HX:=hJ bka;have HM1:=hJ (HM.out.below B0.out hml);clear bka HM;have m1:=HM1.out.cell 1 _ rfl;have m2:=HM1.out.cell 2 _ rfl;have HQ:=hJ (fun (W:World) (hW:Below w.heap.size w W)=>eqn_Match (HP.out.below hW) (HT.out.below hW) (HE.out W hW));go_enter func54,ntmps54
 go_upto_region 1 with fail
 generalize (w.alloc (.cells #[.slice p1 as3.params.length d1,.string as3.result.elem,.string as3.result.shape.row,.slice p2 as3.result.shape.dims.length d2,.slice p3 as3.wh.length d3] 29))=W1 at *
 go_cut [5,6] (fun v5 v6 W=>∃ am cm,v5= .slice am 1 cm∧v6= .int .i64 0∧Hid (Sl RBnd (fun q=>w.heap.size<q) W am 1 cm [bd3])∧Hid (Below W1.heap.size W1 W))
 case first =>
  have hb1:=(zB W1.heap.size W1).drew
  go_region_held3 (fun W=>W.cell? ⟨bm,1,none⟩=some (.slice ap 1 cp)∧W.cell? ⟨bm,2,none⟩=some (.slice at_ 1 ct)) (first | (with_reducible exact ⟨m1,m2⟩) | (with_reducible exact ⟨z1,z2⟩) | go_keep) (first
   | (go_at_call 112
      refine (HQ.out W1.drew (B0.out.drew)).mono ?_;rintro e w2 ⟨⟨am,cm,rfl,hbm2⟩,hb2⟩;have hB2:Below W1.heap.size W1 w2:=hb1.trans hb2;have z1:=kAE m1 _ hB2;have z2:=kAE m2 _ hB2)
   | (go_at_call 112
      refine (HQ.out W1 B0.out).mono ?_;rintro e w2 ⟨⟨am,cm,rfl,hbm2⟩,hb2⟩;have hB2:Below W1.heap.size W1 w2:=hb2;have z1:=kAE m1 _ hB2;have z2:=kAE m2 _ hB2))
  all_goals
   have HR:=hJ (hbm2.mono (S':=fun q=>w.heap.size<q) fun q hq _=>by have hq:W1.heap.size≤q:=hq;rw [hW0] at hq;omega);have HBz:=hJ hB2;clear z1 z2 hbm2 hb2 hB2
   go_wp2_with fail
   go_meet
   exact ⟨am,cm,rfl,rfl,HR,HBz⟩
 case rest =>
  obtain ⟨am,cm,rfl,rfl,HMt,HBc⟩:=hcut;clear m1 m2 xa0 xa1 xa2 xa3 xa4 HQ;have HB2:=hJ (B0.out.trans (HBc.out.mono (by rw [hW0];omega)));have HX2:=hJ (HX.out.below HBc.out HX.out.lt);have HM2:=hJ (HM1.out.below HBc.out HM1.out.lt);have xa0:=HX2.out.cell 0 _ rfl;have xa1:=HX2.out.cell 1 _ rfl;have xa2:=HX2.out.cell 2 _ rfl;have xa3:=HX2.out.cell 3 _ rfl;have xa4:=HX2.out.cell 4 _ rfl;clear HX HM1 HBc
  go_wp2_with fail
  refine (HV.out wc HB2.out).mono ?_;rintro e w3 ⟨⟨v,rfl,hv3⟩,hb3⟩;obtain ⟨av,cv,rfl,hv4⟩:=hv3.sl;have hv4:Sl RBnd (fun k=>False∨wc.heap.size≤k) w3 av 2 cv _:=hv4;have HV3:=hJ (hv4.mono (S':=fun k=>w.heap.size≤k∧k<w3.heap.size) fun k hk hlt=>⟨by have hk:wc.heap.size≤k:=hk.elim False.elim id;have:=HB2.out.size;omega,hlt⟩);have HB3:=hJ (HB2.out.trans (hb3.mono HB2.out.size));have HM3:=hJ (HM2.out.below hb3 HM2.out.lt);have HMt3:=hJ (HMt.out.below hb3);have hz3:=hb3.size;clear hv3 hv4 hb3 HV HX2 HM2 HMt xa0 xa1 xa2 xa3 xa4 HB2
  go_wp2_with fail
  refine wp_loop_rounds 3 ?_;rw [rounds_succ];obtain ⟨vb,vo,rfl,hvb,_⟩:=HV3.out.form 0 (by show 0<2;decide);obtain ⟨_,_,_,⟨⟨ta,tc,rfl,_⟩,⟨da,dc,rfl,hda⟩⟩,e0,e1,e2,e3,e4,e5,e6⟩:=HV3.out.bnd 0 (by show 0<2;decide);have c0:w3.cell? ⟨vb,vo,none⟩=some (.int .i64 1):=e0;have c1:w3.cell? ⟨vb,vo+1,none⟩=some (.string nnS):=e1;have c2:w3.cell? ⟨vb,vo+2,none⟩=some (.int .i64 0):=e2;have c3:w3.cell? ⟨vb,vo+3,none⟩=some (.slice ta 0 tc):=e3;have c4:w3.cell? ⟨vb,vo+4,none⟩=some (.string ⟨#[]⟩):=e4;have c5:w3.cell? ⟨vb,vo+5,none⟩=some (.slice da 0 dc):=e5;have c6:w3.cell? ⟨vb,vo+6,none⟩=some (.string ⟨#[]⟩):=e6;have hda:Sl RLin _ w3 da 0 dc []:=hda;have HDa:=hJ (fun W=>hda.void (S':=fun k=>False∧(Value.slice ab 1 cb).ownBlock≠some k) (w':=W));clear e0 e1 e2 e3 e4 e5 e6 hv4 hda;have HF:=hJ (fun (W:World) (hW:Below w3.heap.size w3 W)=>kFE [bd3] am 1 cm W (HMt3.out.below hW) 1 nnS);rw [bd3_hit] at HF
  go_wp2_with fail
  have hBx:=(zB w3.heap.size w3).alloc (zR _) (.cells #[.int .i64 1,.string nnS,.int .i64 0,.slice ta 0 tc,.string ⟨#[]⟩,.slice da 0 dc,.string ⟨#[]⟩] 42);have HX3:=hJ (Bx.fresh w3 42 [.int .i64 1,.string nnS,.int .i64 0,.slice ta 0 tc,.string ⟨#[]⟩,.slice da 0 dc,.string ⟨#[]⟩]);refine ((HF.out _ hBx)).mono ?_;rintro e w4 ⟨rfl,hb4⟩;have HX4:=hJ (HX3.out.below hb4 HX3.out.lt);have HB34:=hJ (hBx.trans (hb4.mono hBx.size));clear HX3 hb4 hBx c0 c1 c2 c3 c4 c5 c6 HF;have HMt4:=hJ (HMt3.out.below HB34.out);have HM4:=hJ (HM3.out.below HB34.out HM3.out.lt);have HV4:=hJ (HV3.out.below HB34.out);have hz4:=HB34.out.size;have hx4:=HX4.out.lt;have hm3:=HM3.out.lt;clear HMt3 HM3 HV3;obtain ⟨mb,mo,rfl,hmb,_⟩:=HMt4.out.form 0 (by show 0<1;decide);obtain ⟨_,_,_,⟨⟨la,lc,rfl,hla⟩,⟨_,_,rfl,_⟩⟩,_,_,e2,e3,_,_,_⟩:=HMt4.out.bnd 0 (by show 0<1;decide);have f2:w4.cell? ⟨mb,mo+2,none⟩=some (.int .i64 3):=e2;have f3:w4.cell? ⟨mb,mo+3,none⟩=some (.slice la 0 lc):=e3;have hla:Sl kA7 _ w4 la 0 lc []:=hla;have HLa:=hJ (fun W=>hla.void (S':=fun k=>False∧(Value.slice ab 1 cb).ownBlock≠some k) (w':=W));clear e2 e3 hla;have g2:=HX4.out.fz 2;have g3:=HX4.out.fz 3;have k2:=HX4.out.cell 2 _ rfl;have k3:=HX4.out.cell 3 _ rfl
  go_upto_region 13 with fail
  have HB45:Hid (Below w3.heap.size w4 ((w4.setCell ⟨w3.heap.size,2,none⟩ (.int .i64 3)).setCell ⟨w3.heap.size,3,none⟩ (.slice la 0 lc))):=hJ (Below.setCell (Below.setCell (zB w3.heap.size w4) (by simp) _) (by simp) _);have HX5:Hid (Bx ((w4.setCell ⟨w3.heap.size,2,none⟩ (.int .i64 3)).setCell ⟨w3.heap.size,3,none⟩ (.slice la 0 lc)) w3.heap.size 42 [.int .i64 1,.string nnS,.int .i64 3,.slice la 0 lc,.string ⟨#[]⟩,.slice da 0 dc,.string ⟨#[]⟩]):=hJ ((HX4.out.set 2 _).set 3 _);clear g2 g3 k2 k3 f2 f3;generalize ((w4.setCell ⟨w3.heap.size,2,none⟩ (.int .i64 3)).setCell ⟨w3.heap.size,3,none⟩ (.slice la 0 lc))=W5 at *;have HM5:=hJ (HM4.out.below HB45.out hm3);have HV5:=hJ (HV4.out.frame (w':=W5) fun k hk _=>HB45.out.block k hk.2);have HB5:=hJ (HB3.out.trans ((HB34.out.trans HB45.out).mono HB3.out.size));have HO5:=hJ (HO.out.below HB5.out);have HOb:Hid (∀ k,(Value.slice ab 1 cb).ownBlock=some k→k<w.heap.size):=hJ fun k e=>(HO.out.block e).2
  have hz5:=HB45.out.size;have hm5:=HM5.out.lt;have hx5:=HX5.out.lt;clear HX4 HM4 HV4 HMt4 HB34 HB45 HB3 HO;have k0:=HX5.out.cell 0 _ rfl;have k1:=HX5.out.cell 1 _ rfl;have k2:=HX5.out.cell 2 _ rfl;have k3:=HX5.out.cell 3 _ rfl;have k4:=HX5.out.cell 4 _ rfl;have k5:=HX5.out.cell 5 _ rfl;have k6:=HX5.out.cell 6 _ rfl;have m0:=HM5.out.cell 0 _ rfl;have hw5:=HB5.out.size
  go_region_law (first
   | (refine kEW kCS rfl (.tmp 53) (.tmp 55) rfl base (.slice ab 1 cb) [bA] rfl (HO5.out.below (by go_grown)) W5.heap.size bd3 [.int .i64 1,.string nnS,.int .i64 3,.slice la 0 lc,.string ⟨#[]⟩,.slice da 0 dc,.string ⟨#[]⟩] rfl ?ry ?rc ?rl ?rm ?rb ?_
      case ry=>first | exact ⟨_,_,rfl,⟨la,lc,rfl,HLa.out _⟩,⟨da,dc,rfl,HDa.out _⟩⟩
      case rc=>first | exact kA3 42 (by (simp only [kAJ,kAF,Array.getElem?_push,Array.size_push];simp))
      case rl=>first | (simp;done)
      case rm=>first | (unfold maxLen;simp;done)
      case rb=>first | (simp;omega) | (simp;done)
      intro v5 w6 hown6 hb6 hk6;have hV6:=HV5.out.frame (w':=w6) fun k hk _=>(hk6.block k (by simp <;> omega) (fun e=>by have:=HOb.out k e;omega)).trans (Below.block (B:=W5.heap.size) (w:=W5) (by go_grown) k (by omega))
      obtain ⟨a6,m6,c6,rfl⟩:=hown6.shape;have hB6:Below base W5 w6:=Below.trans ((show Below W5.heap.size W5 _ by go_grown).mono (by omega)) hb6;have HM6:=HM5.out.below hB6 hbm;have z0:=HM6.cell 0 _ rfl;have z1:=HM6.fz 0))
  all_goals
   obtain ⟨a7,c7,e7,_⟩:=hown6.sl;rw [Value.slice.injEq] at e7;have hm7:m6=2:=e7.2.1;subst hm7;clear e7;have ho6:Own RBnd 42 (fun _=>False) w6 base (.slice a6 2 c6) [bA,bd3]:=hown6;have HV6:=hJ (hV6.frame (w':=w6.setCell ⟨bm,0,none⟩ (.slice a6 2 c6)) fun k hk _=>kAA (by show bm≠k;have:=hk.1;omega));have HR:=hJ (And.intro (HM6.set 0 (.slice a6 2 c6)) (And.intro (ho6.set (a:=⟨bm,0,none⟩) (.slice a6 2 c6) (fun _ h=>h.elim) hbm) ((Kc.of_below (g:=bm) ((HB5.out.mono hbase).trans hB6)).set 0 (.slice a6 2 c6))));clear hown6 ho6 hk6 hb6 hB6 HM6 z0 z1 hV6 HM5 HV5 HO5 HB5 k0 k1 k2 k3 k4 k5 k6 m0;obtain ⟨_,_,_,⟨⟨ta2,tc2,rfl,_⟩,⟨da2,dc2,rfl,_⟩⟩,e0,e1,e2,e3,e4,e5,e6⟩:=HV6.out.bnd 1 (by show 1<2;decide);have q0:(w6.setCell ⟨bm,0,none⟩ (.slice a6 2 c6)).cell? ⟨vb,vo+7,none⟩=some (.int .i64 3):=e0;have q1:(w6.setCell ⟨bm,0,none⟩ (.slice a6 2 c6)).cell? ⟨vb,vo+7+1,none⟩=some (.string aS):=e1;have r1:(w6.setCell ⟨bm,0,none⟩ (.slice a6 2 c6)).cell? ⟨vb,vo+8,none⟩=some (.string aS):=e1;have q2:(w6.setCell ⟨bm,0,none⟩ (.slice a6 2 c6)).cell? ⟨vb,vo+7+2,none⟩=some (.int .i64 0):=e2;have r2:(w6.setCell ⟨bm,0,none⟩ (.slice a6 2 c6)).cell? ⟨vb,vo+9,none⟩=some (.int .i64 0):=e2;have q3:(w6.setCell ⟨bm,0,none⟩ (.slice a6 2 c6)).cell? ⟨vb,vo+7+3,none⟩=some (.slice ta2 0 tc2):=e3;have r3:(w6.setCell ⟨bm,0,none⟩ (.slice a6 2 c6)).cell? ⟨vb,vo+10,none⟩=some (.slice ta2 0 tc2):=e3;have q4:(w6.setCell ⟨bm,0,none⟩ (.slice a6 2 c6)).cell? ⟨vb,vo+7+4,none⟩=some (.string ⟨#[]⟩):=e4;have r4:(w6.setCell ⟨bm,0,none⟩ (.slice a6 2 c6)).cell? ⟨vb,vo+11,none⟩=some (.string ⟨#[]⟩):=e4;have q5:(w6.setCell ⟨bm,0,none⟩ (.slice a6 2 c6)).cell? ⟨vb,vo+7+5,none⟩=some (.slice da2 0 dc2):=e5;have r5:(w6.setCell ⟨bm,0,none⟩ (.slice a6 2 c6)).cell? ⟨vb,vo+12,none⟩=some (.slice da2 0 dc2):=e5;have q6:(w6.setCell ⟨bm,0,none⟩ (.slice a6 2 c6)).cell? ⟨vb,vo+7+6,none⟩=some (.string ⟨#[]⟩):=e6;have r6:(w6.setCell ⟨bm,0,none⟩ (.slice a6 2 c6)).cell? ⟨vb,vo+13,none⟩=some (.string ⟨#[]⟩):=e6;clear e0 e1 e2 e3 e4 e5 e6;generalize (w6.setCell ⟨bm,0,none⟩ (.slice a6 2 c6))=W6 at *
   go_wp2_with fail
   rw [rounds_succ]
   go_wp2_with fail
   rw [rounds_succ]
   go_wp2_with fail
   go_ret;exact ⟨rfl,⟨a6,c6,HR.out.1.alloc _,HR.out.2.1.alloc _⟩,HR.out.2.2.later ((zB _ _).alloc (zE hbase HR.out.2.2.size) _)⟩
def cmpZ (a b:Int):Int:=if a<b then -1 else if b<a then 1 else 0
def orZ (a b:Int):Int:=if a=0 then b else a
def cmpK (x y:Bnd):Int:=orZ (cmpZ x.kind y.kind) (cmpS x.v y.v)
theorem cmpK_le (x y:Bnd):cmpK x y≤0 ↔ x.kind<y.kind∨(x.kind=y.kind∧cmpS x.v y.v≤0):=by
 unfold cmpK orZ cmpZ;by_cases h:x.kind<y.kind
 · simp [h]
 · by_cases h2:y.kind<x.kind
   · simp [h,h2];omega
   · have:x.kind=y.kind:=by omega
     simp [this]
theorem preB:PreC cmpK:=⟨fun x y=>by
 unfold cmpK orZ cmpZ;rw [cmpS_anti x.v y.v];by_cases h:x.kind<y.kind
 · have h3:¬ y.kind<x.kind:=by omega
   simp [h,h3]
 · by_cases h2:y.kind<x.kind
   · simp [h,h2]
   · simp [h,h2],
 fun a b c h1 h2=>by
  rw [cmpK_le] at *;rcases h1 with h1 | ⟨h1,h3⟩ <;> rcases h2 with h2 | ⟨h2,h4⟩
  · left;omega
  · left;omega
  · left;omega
  · exact .inr ⟨by omega,preV.trans a b c h3 h4⟩⟩
theorem isNaN_int (a:Int) (w:World):Calls Tryz.prog 118 #[.int .i64 a] w fun e w'=>e= .returned (.bool false)∧w=w':=by
 go_enter func118,ntmps118
 go_wp2_with fail
 go_ret;exact ⟨by simp,rfl⟩
theorem compare_int (a b:Int) (w:World):Calls Tryz.prog 59 #[.int .i64 a,.int .i64 b] w fun e w'=>e= .returned (.int .i64 (cmpZ a b))∧w=w':=by
 have H:=hJ (fun x (W:World)=>isNaN_int x W);have HR1:Hid (a<b→cmpZ a b= -1):=hJ (fun h=>by unfold cmpZ;rw [if_pos h]);have HR2:Hid (¬ a<b→b<a→cmpZ a b=1):=hJ (fun h h2=>by unfold cmpZ;rw [if_neg h,if_pos h2]);have HR3:Hid (¬ a<b→¬ b<a→cmpZ a b=0):=hJ (fun h h2=>by unfold cmpZ;rw [if_neg h,if_neg h2]);by_cases h1:a<b
 · go_enter func59,ntmps59
   go_wp2_with fail
   refine (H.out _ _).mono ?_;rintro e _ ⟨rfl,rfl⟩
   go_wp2_with fail
   refine (H.out _ _).mono ?_;rintro e _ ⟨rfl,rfl⟩
   go_wp2_with fail
   go_ret;exact ⟨by rw [HR1.out h1];rfl,rfl⟩
 · by_cases h2:b<a
   · go_enter func59,ntmps59
     go_wp2_with fail
     refine (H.out _ _).mono ?_;rintro e _ ⟨rfl,rfl⟩
     go_wp2_with fail
     refine (H.out _ _).mono ?_;rintro e _ ⟨rfl,rfl⟩
     go_wp2_with fail
     go_ret;exact ⟨by rw [HR2.out h1 h2];rfl,rfl⟩
   · go_enter func59,ntmps59
     go_wp2_with fail
     refine (H.out _ _).mono ?_;rintro e _ ⟨rfl,rfl⟩
     go_wp2_with fail
     refine (H.out _ _).mono ?_;rintro e _ ⟨rfl,rfl⟩
     go_wp2_with fail
     go_ret;exact ⟨by rw [HR3.out h1 h2];rfl,rfl⟩
theorem or_int (a b:Int) (g:Nat) (w:World) (ha:w.cell? ⟨g,0,none⟩=some (.int .i64 a)) (hb:w.cell? ⟨g,1,none⟩=some (.int .i64 b)):Calls Tryz.prog 58 #[.slice (some ⟨g,0,none⟩) 2 2] w fun e w'=>e= .returned (.int .i64 (orZ a b))∧w=w':=by
 have HR1:Hid (¬ a=0→orZ a b=a):=hJ (fun h=>by unfold orZ;rw [if_neg h]);have HR2:Hid (a=0→orZ a b=b):=hJ (fun h=>by unfold orZ;rw [if_pos h]);by_cases h1:a=0
 · have HS:=hJ h1
   subst h1;by_cases h2:b=0
   · subst h2
     go_enter func58,ntmps58
     go_wp2_with fail
     refine wp_loop_rounds 3 ?_;rw [rounds_succ]
     go_wp2_with fail
     rw [rounds_succ]
     go_wp2_with fail
     rw [rounds_succ]
     go_wp2_with fail
     go_ret;exact ⟨by rw [HR2.out trivial];rfl,rfl⟩
   · go_enter func58,ntmps58
     go_wp2_with fail
     refine wp_loop_rounds 3 ?_;rw [rounds_succ]
     go_wp2_with fail
     rw [rounds_succ]
     go_wp2_with fail
     go_ret;exact ⟨by rw [HR2.out trivial];rfl,rfl⟩
 · go_enter func58,ntmps58
   go_wp2_with fail
   refine wp_loop_rounds 3 ?_;rw [rounds_succ]
   go_wp2_with fail
   go_ret;exact ⟨by rw [HR1.out h1];rfl,rfl⟩
theorem inst_cmp {S T:Blk} {x y:Bnd} {cs ds:List Value} {w:World} (h:RBnd.rd S w cs x) (h2:RBnd.rd T w ds y) :
 Calls Tryz.prog 57 #[.agg cs.toArray,.agg ds.toArray] w fun e w'=>e= .returned (.int .i64 (cmpK x y))∧Below w.heap.size w w':=by
 obtain ⟨_,_,rfl,⟨a1,c1,rfl,_⟩,⟨a2,c2,rfl,_⟩⟩:=h;obtain ⟨_,_,rfl,⟨a3,c3,rfl,_⟩,⟨a4,c4,rfl,_⟩⟩:=h2;have HC:Hid (∀ W,Calls Tryz.prog 59 #[.int .i64 x.kind,.int .i64 y.kind] W fun e w'=>e= .returned (.int .i64 (cmpZ x.kind y.kind))∧W=w'):=hJ (fun W=>compare_int _ _ W);have HS:Hid (∀ W,Calls Tryz.prog 60 #[.string x.v,.string y.v] W fun e w'=>e= .returned (.int .i64 (cmpS x.v y.v))∧W=w'):=hJ (fun W=>kH5 _ _ W);have HK:Hid (cmpK x y=orZ (cmpZ x.kind y.kind) (cmpS x.v y.v)):=hJ rfl;generalize cmpK x y=r at *;obtain ⟨B0,ya,yb,hW0⟩:=box2 w 42 [.int .i64 x.kind,.string x.v,.int .i64 x.dim.const,.slice a1 x.dim.terms.length c1,.string x.row.row,.slice a2 x.row.dims.length c2,.string x.elem] 42 [.int .i64 y.kind,.string y.v,.int .i64 y.dim.const,.slice a3 y.dim.terms.length c3,.string y.row.row,.slice a4 y.row.dims.length c4,.string y.elem];have xa0:=box0 ya 0 _ rfl;have xa1:=box0 ya 1 _ rfl;have xa2:=box0 ya 2 _ rfl;have xa3:=box0 ya 3 _ rfl;have xa4:=box0 ya 4 _ rfl;have xa5:=box0 ya 5 _ rfl;have xa6:=box0 ya 6 _ rfl;have xb0:=box0 yb 0 _ rfl;have xb1:=box0 yb 1 _ rfl;have xb2:=box0 yb 2 _ rfl;have xb3:=box0 yb 3 _ rfl;have xb4:=box0 yb 4 _ rfl;have xb5:=box0 yb 5 _ rfl;have xb6:=box0 yb 6 _ rfl;clear ya yb;generalize cmpZ x.kind y.kind=p at *;generalize cmpS x.v y.v=q at *;go_enter func57,ntmps57
 go_upto_region 1 with fail
 generalize ((w.alloc (.cells #[.int .i64 x.kind,.string x.v,.int .i64 x.dim.const,.slice a1 x.dim.terms.length c1,.string x.row.row,.slice a2 x.row.dims.length c2,.string x.elem] 42)).alloc (.cells #[.int .i64 y.kind,.string y.v,.int .i64 y.dim.const,.slice a3 y.dim.terms.length c3,.string y.row.row,.slice a4 y.row.dims.length c4,.string y.elem] 42))=W at *
 have HO:Hid (Calls Tryz.prog 58 #[.slice (some ⟨w.heap.size+2,0,none⟩) 2 2] (W.alloc (.cells #[.int .i64 p,.int .i64 q] 3)).drew fun e w'=>e= .returned (.int .i64 (orZ p q))∧(W.alloc (.cells #[.int .i64 p,.int .i64 q] 3)).drew=w'):=by
  rw [← hW0];exact hJ (or_int p q _ _ ((Bx.fresh W 3 [.int .i64 p,.int .i64 q]).drew.cell 0 _ rfl) ((Bx.fresh W 3 [.int .i64 p,.int .i64 q]).drew.cell 1 _ rfl))
 go_region_held3 (fun W=>W.cell? ⟨w.heap.size,0,none⟩=some (.int .i64 x.kind)∧W.cell? ⟨w.heap.size,1,none⟩=some (.string x.v)∧W.cell? ⟨w.heap.size+1,0,none⟩=some (.int .i64 y.kind)∧W.cell? ⟨w.heap.size+1,1,none⟩=some (.string y.v)) (first | (with_reducible exact ⟨xa0,xa1,xb0,xb1⟩) | go_keep) (first
  | (go_at_call 59
     refine (HC.out _).mono ?_;rintro e _ ⟨rfl,rfl⟩)
  | (go_at_call 60
     refine (HS.out _).mono ?_;rintro e _ ⟨rfl,rfl⟩)
  | (go_at_call 58
     refine HO.out.mono ?_;rintro e _ ⟨rfl,rfl⟩))
 all_goals go_wp2_with fail
 all_goals go_ret
 all_goals exact ⟨by rw [HK.out];rfl,B0.out.trans (((zB W.heap.size W).alloc (zR _) _).drew.mono (by rw [hW0];omega))⟩
theorem nil_eqlL (w:World):(binOp .eql 23 (.slice none 0 0) (.slice none 0 0)).run Tryz.prog w= .ok (.bool true) w:=by kernel_rfl
theorem some_eqlL (w:World) (ad:Addr) (n c:Nat):(binOp .eql 23 (.slice (some ad) n c) (.slice none 0 0)).run Tryz.prog w= .ok (.bool false) w:=by kernel_rfl
theorem clone_lin0 {S:Blk} (a:Option Addr) (c:Nat) (w:World) (h:Sl RLin S w a 0 c []) :
 Calls Tryz.prog 51 #[.slice a 0 c] w fun e w'=>(∃ v,e= .returned v∧Own RLin 40 (fun _=>False) w' w.heap.size v [])∧Below w.heap.size w w':=by
 cases a with
 | none =>
   have h0:=h.nil rfl;subst h0;have hq:=nil_eqlL;go_enter func51,ntmps51
   go_wp2_with fail
   go_ret;exact ⟨⟨_,rfl,Own.nil _ _ _ _ _⟩,zB _ _⟩
 | some ad =>
   have HS:=hJ (fun W=>h.void (S':=fun k=>False∧(Value.slice (some ⟨w.heap.size,0,none⟩) 0 0).ownBlock≠some k) (w':=W));clear h;have hq:=fun w=>some_eqlL w ad 0 c
   go_enter func51,ntmps51
   go_wp2_with (at_builtin;refine app_sl kA2 rfl _ _ rfl w.heap.size _ [] [] rfl (Own.at0 RLin _ (fun _=>False) (by (simp only [kAJ,kAF,Array.getElem?_push,Array.size_push];simp)) (zR _)) (some ad) 0 c rfl (HS.out _) (by simp) (by unfold maxLen;simp) (by simp) ?_;intro v9 w9 hown9 hb9 hk9)
   go_ret;exact ⟨⟨v9,rfl,hown9⟩,((zB _ _).alloc (zR _) _).trans hb9⟩
theorem two_sorted {m:List Bnd} (hp:m.Perm [bA,bd3]) (hl:Le cmpK m):m=[bd3,bA]:=by
 have hk:¬ cmpK bA bd3≤0:=by
  rw [cmpK_le];intro h;rcases h with h | ⟨h,_⟩ <;> exact absurd h (by decide)
 have h2:=hp.length_eq
 match m,h2 with
 | [x,y],_ =>
   have hle:cmpK x y≤0:=by
    unfold Le at hl;rw [List.pairwise_cons] at hl;exact hl.1 y (zM ..)
   have hx:=hp.mem_iff.1 (zM (a:=x) (l:=[y]));have hy:=hp.mem_iff.1 (zO x (zM (a:=y) (l:=[])));have hA:=hp.mem_iff.2 (zM (a:=bA) (l:=[bd3]));have hB:=hp.mem_iff.2 (zO bA (zM (a:=bd3) (l:=[])));have hne:bA≠bd3:=fun e=>hk (by rw [← e];exact absurd (congrArg Bnd.kind e) (by decide))
   simp only [List.mem_cons,List.not_mem_nil,or_false] at hx hy hA hB;rcases hx with rfl | rfl <;> rcases hy with rfl | rfl
   · rcases hB with e | e <;> exact absurd e.symm hne
   · exact absurd hle hk
   · rfl
   · rcases hA with e | e <;> exact absurd e hne
theorem cat_rd {S:Blk} {ps:List Typ} {r:Typ} {ap at_:Option Addr} {n cp L ct:Nat} (w:World) (hp:Sl RTyp S w ap n cp ps) (ht:Sl RLin S w at_ L ct r.shape.dims) (hn:n≤12) (k0 k1:Nat) (h0:k0=w.heap.size) (h1:k1=w.heap.size+1) :
 Calls Tryz.prog 52 #[.slice (some ⟨k1,0,none⟩) 2 2] ((w.alloc (.cells #[.string r.elem,.string r.shape.row,.slice at_ L ct] 27)).alloc (.cells #[.slice ap n cp,.slice (some ⟨k0,0,none⟩) 1 1] 22)) fun e w'=>(∃ a c,e= .returned (.slice a (n+1) c)∧Sl RTyp (fun k=>S k∨w.heap.size≤k) w' a (n+1) c (ps++[r]))∧Below w.heap.size w w':=by
 subst h0 h1;have hl:=hp.len;have hl2:=ht.len;have HA:Below w.heap.size w ((w.alloc (.cells #[.string r.elem,.string r.shape.row,.slice at_ L ct] 27)).alloc (.cells #[.slice ap n cp,.slice (some ⟨w.heap.size,0,none⟩) 1 1] 22)):=((zB _ _).alloc (zR _) _).alloc (by simp) _;subst hl2
 refine (concat_Typ (S1:=S) (S2:=fun k=>S k∨w.heap.size≤k) ps [r] ap n cp (some ⟨w.heap.size,0,none⟩) 1 1 (w.heap.size+1) _
  (by have:=Bx.fresh (w.alloc (.cells #[.string r.elem,.string r.shape.row,.slice at_ r.shape.dims.length ct] 27)) 22 [.slice ap n cp,.slice (some ⟨w.heap.size,0,none⟩) 1 1];simpa using this)
  (hp.below HA)
  (Sl.single (cs:=[.string r.elem,.string r.shape.row,.slice at_ r.shape.dims.length ct]) ((Bx.fresh w 27 [.string r.elem,.string r.shape.row,.slice at_ r.shape.dims.length ct]).alloc _) ⟨_,rfl,at_,ct,rfl,(ht.mono (fun k hk hlt=>.inl hk)).below HA⟩ (.inr (zR _))) (by omega) (by omega)).mono ?_
 rintro e w' ⟨⟨v,rfl,ho⟩,hb⟩;have hz:=HA.size;obtain ⟨a,c,rfl,hs⟩:=ho.sl;have hlen:(ps++[r]).length=n+1:=by rw [zP,hl];rfl
 rw [hlen] at hs ⊢
 exact ⟨⟨a,c,rfl,hs.mono fun k hk _=>by
  rcases hk with (hk | hk | hk) | hk
  · exact .inl hk
  · exact .inl hk
  · exact .inr hk
  · exact .inr (by have:=HA.size;omega)⟩,HA.trans (hb.mono hz)⟩
def gTy:Typ:=⟨aS,⟨⟨#[]⟩,[pL]⟩⟩
def gUy:Typ:=⟨aS,⟨⟨#[]⟩,[]⟩⟩
def sTy:Typ:=⟨iS,⟨⟨#[]⟩,[tL]⟩⟩
def sUy:Typ:=⟨iS,⟨⟨#[]⟩,[]⟩⟩
theorem sch3_open {S:Blk} {w:World} {cs:List Value} (h:RSch.rd S w cs as3):∃ p c t d q e,cs=[.slice p 1 c,.string aS,.string ⟨#[]⟩,.slice t 0 d,.slice q 0 e]∧Sl RTyp S w p 1 c [gTy]∧Sl RLin S w t 0 d []∧Sl RLin S w q 0 e []:=by
 obtain ⟨_,_,_,rfl,⟨p1,c1,rfl,hp1⟩,⟨t1,d1,rfl,ht1⟩,⟨q1,e1,rfl,hq1⟩⟩:=h;exact ⟨p1,c1,t1,d1,q1,e1,rfl,hp1,ht1,hq1⟩
theorem sch4_open {S:Blk} {w:World} {cs:List Value} (h:RSch.rd S w cs as4):∃ p c t d q e,cs=[.slice p 1 c,.string iS,.string ⟨#[]⟩,.slice t 0 d,.slice q 0 e]∧Sl RTyp S w p 1 c [sTy]∧Sl RLin S w t 0 d []∧Sl RLin S w q 0 e []:=by
 obtain ⟨_,_,_,rfl,⟨p1,c1,rfl,hp1⟩,⟨t1,d1,rfl,ht1⟩,⟨q1,e1,rfl,hq1⟩⟩:=h;exact ⟨p1,c1,t1,d1,q1,e1,rfl,hp1,ht1,hq1⟩
theorem app_nothing {P:Program} {T E:TypeId} {size bytes:Nat} (he:ElemOf P T E size bytes) {ops:Array Oper} {rest:List Oper} {o:Oper} {a:Act} {Q:Exit→Act→World→Prop} {w:World} (hgd:o.guard=none) (s x:Operand)
 (ho:o.op= .call { callee:=.builtin .append,args:=#[s,x],argTypes:=#[T,T] }) (b:Option Addr) (n c:Nat) (hle:n≤c) (hs:a.eval s= .slice b n c) (ao:Option Addr) (c':Nat)
 (hx:a.eval x= .slice ao 0 c') (h:wpList P ops Q rest (a.put o.dst (.slice b n c)) w):wpList P ops Q (o :: rest) a w:=by
 obtain ⟨i0,z0,hi,hz,hsz,hb,hzs⟩:=he.parts
 have h1:(Builtin.append_ #[T,T] o.type #[.slice b n c,.slice ao 0 c']).run P w= .ok (.slice b n c) w:=by
  refine run_append_nothing w T T o.type E i0 he.slice hi b n c hle _ ?_;cases ao with
  | none=>exact Src.ofNil _ he.slice c'
  | some ad=>exact Src.ofSlice _ he.slice ad 0 c' [] (by simp) (fun j u e=>by simp at e) (fun u hu=>by cases hu)
 refine wpList_plain hgd fun K hK=>?_
 unfold Oper.wp;simp [execOp,ho,resolve,invoke,builtin,hs,hx,h1,Result.andThen];exact hK _ _ h
theorem kDD {w w':World} {g:Nat} {a:Addr} {v:Value} (h:w.cell? a=some v) (hk:Kb g w w') (hne:a.block≠g):w'.cell? a=some v:=kCE h (fun hlt=>hk.block _ hlt hne)
theorem inst_ex {S T:Blk} {w:World} {cs ds:List Value} (h:RSch.rd S w cs as3) (h2:RSch.rd T w ds as4) (E:Env w) :
 Calls Tryz.prog 15 #[.agg cs.toArray,.agg ds.toArray] w fun e w'=>(∃ a c,e= .returned (.tuple #[.slice a 2 c,.int .i64 0])∧Sl RBnd (fun q=>w.heap.size≤q) w' a 2 c [bd3,bA])∧Below w.heap.size w w':=by
 have HV1:=hJ (fun (W:World) (hW:Below w.heap.size w W)=>kBK (RSch.below h hW) (kGS av3) (E.below hW));have HV2:=hJ (fun (W:World) (hW:Below w.heap.size w W)=>kBK (RSch.below h2 hW) (kGS av4) (E.below hW));rw [av3] at HV1;rw [av4] at HV2;have HE:=hJ (fun (W:World) (hW:Below w.heap.size w W)=>E.below hW);have HR1:=hJ h;obtain ⟨p1,c1,t1,d1,q1,e1,rfl,hp1,ht1,_⟩:=sch3_open h;obtain ⟨p2,c2,t2,d2,q2,e2,rfl,hp2,ht2,hq2⟩:=sch4_open h2;clear h h2;have HP1:=hJ (hp1.mono (S':=fun q=>q<w.heap.size) fun q _ hq=>hq);have HP2:=hJ (hp2.mono (S':=fun q=>q<w.heap.size) fun q _ hq=>hq);have HT1:=hJ (ht1.mono (S':=fun q=>q<w.heap.size) fun q _ hq=>hq);have HT2:=hJ (ht2.mono (S':=fun q=>q<w.heap.size) fun q _ hq=>hq);have HQ2:=hJ (fun W=>clone_lin0 q2 e2 W (hq2.void (S':=All) (w':=W)));clear hp1 hp2 ht1 ht2 hq2 E;obtain ⟨B0,ya,yb,hW0⟩:=box2 w 29 [.slice p1 1 c1,.string aS,.string ⟨#[]⟩,.slice t1 0 d1,.slice q1 0 e1] 29 [.slice p2 1 c2,.string iS,.string ⟨#[]⟩,.slice t2 0 d2,.slice q2 0 e2];have xa0:=box0 ya 0 _ rfl;have xa1:=box0 ya 1 _ rfl;have xa2:=box0 ya 2 _ rfl;have xa3:=box0 ya 3 _ rfl;have xa4:=box0 ya 4 _ rfl;have xb0:=box0 yb 0 _ rfl;have xb1:=box0 yb 1 _ rfl;have xb2:=box0 yb 2 _ rfl;have xb3:=box0 yb 3 _ rfl;have xb4:=box0 yb 4 _ rfl;have bka:Bx _ _ _ _:=ya;have bkb:Bx _ _ _ _:=yb;clear ya yb;have HA0:=hJ bka;have HB0:=hJ bkb;clear bka bkb;go_enter func15,ntmps15
 go_wp2_with fail
 generalize ((w.alloc (.cells #[.slice p1 1 c1,.string aS,.string ⟨#[]⟩,.slice t1 0 d1,.slice q1 0 e1] 29)).alloc (.cells #[.slice p2 1 c2,.string iS,.string ⟨#[]⟩,.slice t2 0 d2,.slice q2 0 e2] 29))=W1 at *;refine ((HV1.out _ B0.out)).mono ?_;rintro e w2 ⟨rfl,hb2⟩;have HW2:=hJ (B0.out.trans (hb2.mono B0.out.size));have HA2:=hJ (HA0.out.below hb2 HA0.out.lt);have HB2:=hJ (HB0.out.below hb2 HB0.out.lt);clear hb2 HA0 HB0 xa0 xa1 xa2 xa3 xa4 xb0 xb1 xb2 xb3 xb4 HV1;have xb0:=HB2.out.cell 0 _ rfl;have xb1:=HB2.out.cell 1 _ rfl;have xb2:=HB2.out.cell 2 _ rfl;have xb3:=HB2.out.cell 3 _ rfl;have xb4:=HB2.out.cell 4 _ rfl
 go_wp2_with fail
 refine ((HV2.out _ HW2.out)).mono ?_;rintro e w3 ⟨rfl,hb3⟩;have HW3:=hJ (HW2.out.trans (hb3.mono HW2.out.size));have HA3:=hJ (HA2.out.below hb3 HA2.out.lt);have HB3:=hJ (HB2.out.below hb3 HB2.out.lt);clear hb3 HA2 HB2 xb0 xb1 xb2 xb3 xb4 HV2 HW2;have xa0:=HA3.out.cell 0 _ rfl;have xb0:=HB3.out.cell 0 _ rfl;have hal:=HA3.out.lt;have hbl:=HB3.out.lt;have xb4:=HB3.out.cell 4 _ rfl
 go_wp2_with fail
 have HM3:=hJ (Bx.fresh w3 92 [.slice none 0 0,.slice none 0 0,.slice none 0 0]);have HX3:Hid (Below w3.heap.size w3 (w3.alloc (.cells #[.slice none 0 0,.slice none 0 0,.slice none 0 0] 92))):=hJ ((zB _ _).alloc (zR _) _);have hz3:(w3.alloc (.cells #[.slice none 0 0,.slice none 0 0,.slice none 0 0] 92)).heap.size=w3.heap.size+1:=by simp
 refine (HQ2.out _).mono ?_;rintro e w4 ⟨⟨v7,rfl,hv7⟩,hb4⟩;obtain ⟨a7,c7,e7,_⟩:=hv7.sl;have e7:v7= .slice a7 0 c7:=e7;subst e7;have HOb:Hid (∀ k,(Value.slice a7 0 c7).ownBlock=some k→w3.heap.size+1≤k∧k<w4.heap.size):=hJ (fun k e=>by have:=hv7.block e;rw [hz3] at this;exact this);have HX4:=hJ (HX3.out.trans (hb4.mono HX3.out.size));have HM4:=hJ (HM3.out.below hb4 HM3.out.lt);have HO7:=hJ (hv7.lower (base':=w3.heap.size+1) (by rw [hz3];exact zR _));have HW4:=hJ (HW3.out.trans (HX4.out.mono HW3.out.size));have HA4:=hJ (HA3.out.below HX4.out hal);have HB4:=hJ (HB3.out.below HX4.out hbl);have h4:w3.heap.size+1≤w4.heap.size:=by rw [← hz3];exact hb4.size
 clear hb4 HX3 HX4 HM3 hz3 hv7 xa0 xb0 xb4 HA3 HB3 HQ2;have xb0:=HB4.out.cell 0 _ rfl;have xb1:=HB4.out.cell 1 _ rfl;have xb2:=HB4.out.cell 2 _ rfl;have xb3:=HB4.out.cell 3 _ rfl;have HC2:=hJ (cat_rd (S:=fun q=>q<w.heap.size) (ps:=[sTy]) (r:=sUy) w4 (HP2.out.below HW4.out) (HT2.out.below HW4.out) (by decide) w4.heap.size (w4.heap.size+1) rfl rfl)
 change Hid (Calls _ _ _ ((w4.alloc (.cells #[.string iS,.string ⟨#[]⟩,.slice t2 0 d2] 27)).alloc (.cells #[.slice p2 1 c2,.slice (some ⟨w4.heap.size,0,none⟩) 1 1] 22)) _) at HC2
 go_wp2_with fail
 refine HC2.out.mono ?_;rintro e w5 ⟨⟨a8,c8,rfl,hs8⟩,hb5⟩;have hs8:Sl RTyp _ w5 a8 2 c8 [sTy,sUy]:=hs8;have HS8:=hJ (hs8.mono (S':=fun q=>q<w3.heap.size∨w4.heap.size≤q) (fun q hq _=>hq.elim (fun h=>.inl (by have:=HW3.out.size;omega)) (fun h=>.inr (by omega))));have HM5:=hJ (HM4.out.below hb5 HM4.out.lt);have HO75:=hJ (HO7.out.below hb5);have HW5:=hJ (HW4.out.trans (hb5.mono HW4.out.size));have HA5:=hJ (HA4.out.below hb5 HA4.out.lt);have h5:=hb5.size;clear hb5 hs8 HM4 HO7 HW4 HA4 HB4 HC2 xb0 xb1 xb2 xb3;have xa0:=HA5.out.cell 0 _ rfl;have xa1:=HA5.out.cell 1 _ rfl;have xa2:=HA5.out.cell 2 _ rfl;have xa3:=HA5.out.cell 3 _ rfl;have HC1:=hJ (cat_rd (S:=fun q=>q<w.heap.size) (ps:=[gTy]) (r:=gUy) w5 (HP1.out.below HW5.out) (HT1.out.below HW5.out) (by decide) w5.heap.size (w5.heap.size+1) rfl rfl)
 change Hid (Calls _ _ _ ((w5.alloc (.cells #[.string aS,.string ⟨#[]⟩,.slice t1 0 d1] 27)).alloc (.cells #[.slice p1 1 c1,.slice (some ⟨w5.heap.size,0,none⟩) 1 1] 22)) _) at HC1
 go_wp2_with fail
 refine HC1.out.mono ?_;rintro e w6 ⟨⟨a9,c9,rfl,hs9⟩,hb6⟩;have hs9:Sl RTyp _ w6 a9 2 c9 [gTy,gUy]:=hs9;have HS9:=hJ (hs9.mono (S':=fun q=>q<w3.heap.size∨w4.heap.size≤q) (fun q hq _=>hq.elim (fun h=>.inl (by have:=HW3.out.size;omega)) (fun h=>.inr (by omega))));have HS86:=hJ (HS8.out.below hb6);have HM6:=hJ (HM5.out.below hb6 HM5.out.lt);have HO76:=hJ (HO75.out.below hb6);have HW6:=hJ (HW5.out.trans (hb6.mono HW5.out.size));have HA6:=hJ (HA5.out.below hb6 HA5.out.lt);have h6:=hb6.size;clear hb6 hs9 HM5 HO75 HW5 HA5 HC1 HS8 xa0 xa1 xa2 xa3
 go_wp2_with fail
 refine wp_loop_rounds 3 ?_;rw [rounds_succ];obtain ⟨b9,o9,rfl,hb9,hi9⟩:=HS9.out.form 0 (by decide);obtain ⟨_,_,⟨ga,gc,rfl,hga⟩,g0,g1,g2⟩:=HS9.out.typ 0 (by decide);have HGa:Hid (Sl RLin (fun q=>q<w3.heap.size∨w4.heap.size≤q) w6 ga 1 gc [pL]):=hJ hga;have x0:w6.cell? ⟨b9,o9,none⟩=some (.string aS):=g0;have x1:w6.cell? ⟨b9,o9+1,none⟩=some (.string ⟨#[]⟩):=g1;have x2:w6.cell? ⟨b9,o9+2,none⟩=some (.slice ga 1 gc):=g2;obtain ⟨b8,o8,rfl,hb8,hi8⟩:=HS86.out.form 0 (by decide);obtain ⟨_,_,⟨sa,sc,rfl,hsa⟩,s0,s1,s2⟩:=HS86.out.typ 0 (by decide);have HSa:Hid (Sl RLin (fun q=>q<w3.heap.size∨w4.heap.size≤q) w6 sa 1 sc [tL]):=hJ hsa;have y0:w6.cell? ⟨b8,o8,none⟩=some (.string iS):=s0;have y1:w6.cell? ⟨b8,o8+1,none⟩=some (.string ⟨#[]⟩):=s1;have y2:w6.cell? ⟨b8,o8+2,none⟩=some (.slice sa 1 sc):=s2;clear hga hsa g0 g1 g2 s0 s1 s2
 go_upto_region 11 with fail
 obtain ⟨HB7,hk7,hz7⟩:=box1 w6 27 [.string aS,.string ⟨#[]⟩,.slice ga 1 gc];have k0:=box0 hk7 0 _ rfl;have k1:=box0 hk7 1 _ rfl;have k2:=box0 hk7 2 _ rfl;clear hk7 x0 x1 x2;generalize w6.alloc (.cells [.string aS,.string ⟨#[]⟩,.slice ga 1 gc].toArray 27)=W7 at *;have y0:=kAE y0 _ HB7.out;have y1:=kAE y1 _ HB7.out;have y2:=kAE y2 _ HB7.out;have HP:Hid (∀ W,Below w6.heap.size w6 W→_):=hJ (fun W hW=>mat_pair1 (HM6.out.below hW HM6.out.lt) (HGa.out.below hW) (HSa.out.below hW) (fun q hq=>by omega) (fun q hq=>by omega))
 go_cut [11] (fun v W=>v= .int .i64 0∧∃ ab cb ap cp at_ ct,Hid (Bx W w3.heap.size 92 [.slice ab 1 cb,.slice ap 1 cp,.slice at_ 1 ct])∧Hid (Own RBnd 42 (fun _=>False) W W7.heap.size (.slice ab 1 cb) [bA])∧Hid (Sl RLin (fun q=>q<w3.heap.size∨w4.heap.size≤q) W ap 1 cp [pL])∧Hid (Sl RLin (fun q=>q<w3.heap.size∨w4.heap.size≤q) W at_ 1 ct [tL])∧Hid (Kb w3.heap.size W7 W))
 case first =>
  go_region_held3 (fun W=>W.cell? ⟨w6.heap.size,0,none⟩=some (.string aS)∧W.cell? ⟨w6.heap.size,1,none⟩=some (.string ⟨#[]⟩)∧W.cell? ⟨w6.heap.size,2,none⟩=some (.slice ga 1 gc)∧W.cell? ⟨b8,o8,none⟩=some (.string iS)∧W.cell? ⟨b8,o8+1,none⟩=some (.string ⟨#[]⟩)∧W.cell? ⟨b8,o8+2,none⟩=some (.slice sa 1 sc)) (first | (with_reducible exact ⟨z0,z1,z2,z3,z4,z5⟩) | (with_reducible exact ⟨k0,k1,k2,y0,y1,y2⟩) | go_keep) (first
   | (go_at_call 53
      refine (HP.out W7.drew HB7.out.drew).mono ?_;rintro e w8 ⟨rfl,⟨ab,cb,ap,cp,at_,ct,hM8,hO8,hP8,hT8⟩,hK8⟩;have z0:=kDD (w:=W7.drew) k0 hK8 (by show w6.heap.size≠w3.heap.size;omega);have z1:=kDD (w:=W7.drew) k1 hK8 (by show w6.heap.size≠w3.heap.size;omega);have z2:=kDD (w:=W7.drew) k2 hK8 (by show w6.heap.size≠w3.heap.size;omega);have z3:=kDD (w:=W7.drew) y0 hK8 (fun e=>by have e:b8=w3.heap.size:=e;rcases hi8 with h | h <;> omega);have z4:=kDD (w:=W7.drew) y1 hK8 (fun e=>by have e:b8=w3.heap.size:=e;rcases hi8 with h | h <;> omega);have z5:=kDD (w:=W7.drew) y2 hK8 (fun e=>by have e:b8=w3.heap.size:=e;rcases hi8 with h | h <;> omega)))
  all_goals
   have hz8:W7.drew.heap.size=W7.heap.size:=rfl;have HPa:=hJ (hP8.mono (S':=fun q=>q<w3.heap.size∨w4.heap.size≤q) fun q hq _=>hq.1.elim id (fun h=>.inr (by omega)));have HTa:=hJ (hT8.mono (S':=fun q=>q<w3.heap.size∨w4.heap.size≤q) fun q hq _=>hq.1.elim id (fun h=>.inr (by omega)));have HRa:=hJ (And.intro hM8 (And.intro hO8 hK8));clear hP8 hT8 hM8 hO8 hK8 hz8
   go_wp2_with fail
   go_meet
   exact ⟨rfl,ab,cb,ap,cp,at_,ct,hJ HRa.out.1,hJ HRa.out.2.1,HPa,HTa,hJ ⟨HRa.out.2.2.os,HRa.out.2.2.tape,HRa.out.2.2.output,HRa.out.2.2.size,HRa.out.2.2.block⟩⟩
 case rest =>
  obtain ⟨rfl,ab,cb,ap,cp,at_,ct,HMc,HOc,HPc,HTc,HKc⟩:=hcut;have hi8':b8≠w3.heap.size:=fun e=>by rcases hi8 with h | h <;> omega
  have y2c:=kDD y2 HKc.out hi8';have hzc:=HKc.out.size;have HOv:=hJ (((HO76.out.below HB7.out).kb HKc.out (fun _ h=>h.elim) (Nat.lt_succ_self _)).mono (S':=fun q=>q<w3.heap.size∨w4.heap.size≤q) (fun _ h _=>h.elim));have HSv:=hJ (((HSa.out.below HB7.out).kb HKc.out (fun q hq e=>by rcases hq with h | h <;> omega)).mono (S':=fun k=>(k<w3.heap.size∨w4.heap.size≤k)∧(Value.slice a7 0 c7).ownBlock≠some k) (fun k hk _=>⟨hk,fun e=>by have:=HOb.out k e;rcases hk with h | h <;> omega⟩));clear y0 y1 y2 k0 k1 k2 HP
  go_wp2_with (at_builtin;refine app_sl kA2 rfl _ _ rfl (w3.heap.size+1) (.slice a7 0 c7) [] [tL] rfl HOv.out sa 1 sc rfl HSv.out (by simp;done) (by unfold maxLen;simp;done) (by omega) ?_;intro v9 w9 hown9 hb9 hk9)
  obtain ⟨a10,c10,e10,hs10⟩:=hown9.sl;have e10:v9= .slice a10 1 c10:=e10;subst e10;have hc10:1≤c10:=hs10.cap;clear hs10;have HKp:=hJ (fun k (hlt:k<wc.heap.size) (h:k<w3.heap.size+1∨w4.heap.size≤k)=>hk9.block k hlt (fun e=>by have:=HOb.out k e;omega));have hzz:=hb9.size;have HM9:Hid (Bx w9 w3.heap.size 92 [.slice ab 1 cb,.slice ap 1 cp,.slice at_ 1 ct]):=hJ ((HKp.out w3.heap.size HMc.out.lt (.inl (Nat.lt_succ_self _))).trans HMc.out);have HO9:=hJ (HOc.out.frame (w':=w9) (fun k hlt h=>HKp.out k hlt (.inr (h.elim False.elim (fun e=>by have:=HOc.out.base_le k e;omega)))) hzz);have HPp9:=hJ (HPc.out.frame (w':=w9) (fun k hk hlt=>HKp.out k hlt (hk.imp (fun h=>by omega) id)));have HTt9:=hJ (HTc.out.frame (w':=w9) (fun k hk hlt=>HKp.out k hlt (hk.imp (fun h=>by omega) id)));have HS99:=hJ (((HS9.out.below HB7.out).kb HKc.out (fun q hq e=>by rcases hq with h | h <;> omega)).frame (w':=w9) (fun k hk hlt=>HKp.out k hlt (hk.imp (fun h=>by omega) id)));have HS89:=hJ (((HS86.out.below HB7.out).kb HKc.out (fun q hq e=>by rcases hq with h | h <;> omega)).frame (w':=w9) (fun k hk hlt=>HKp.out k hlt (hk.imp (fun h=>by omega) id)));have HA9:Hid (Bx w9 w.heap.size 29 [.slice p1 1 c1,.string aS,.string ⟨#[]⟩,.slice t1 0 d1,.slice q1 0 e1]):=hJ ((HKp.out w.heap.size (by omega) (.inl (by omega))).trans (((HA6.out.below HB7.out HA6.out.lt).kb HKc.out (by omega))));have hw6:=HW6.out.size;have hw3:=HW3.out.size;have HW9:=hJ (HW6.out.trans ((HB7.out.mono hw6).trans ((HKc.out.below hw3 (by omega)).trans (hb9.mono (by omega)))));clear hb9 hk9 HKp HMc HOc HPc HTc HKc HOv HSv HB7 HM6 HO76 HS9 HS86 HA6 HW6 HGa HSa y2c;clear hown9;rw [rounds_succ];obtain ⟨_,_,⟨gb,gd,rfl,_⟩,g0,g1,g2⟩:=HS99.out.typ 1 (by decide);have x0:w9.cell? ⟨b9,o9+3,none⟩=some (.string aS):=g0;have x1:w9.cell? ⟨b9,o9+3+1,none⟩=some (.string ⟨#[]⟩):=g1;have x2:w9.cell? ⟨b9,o9+3+2,none⟩=some (.slice gb 0 gd):=g2;have x3:w9.cell? ⟨b9,o9+4,none⟩=some (.string ⟨#[]⟩):=g1;have x4:w9.cell? ⟨b9,o9+5,none⟩=some (.slice gb 0 gd):=g2;obtain ⟨_,_,⟨sb,sd,rfl,_⟩,s0,s1,s2⟩:=HS89.out.typ 1 (by decide);have y0:w9.cell? ⟨b8,o8+3,none⟩=some (.string iS):=s0;have y1:w9.cell? ⟨b8,o8+4,none⟩=some (.string ⟨#[]⟩):=s1;have y2:w9.cell? ⟨b8,o8+5,none⟩=some (.slice sb 0 sd):=s2
  clear g0 g1 g2 s0 s1 s2
  have HBs:Hid (Sl RBnd (fun q=>q≠w3.heap.size) w9 ab 1 cb [bA]):=by
   obtain ⟨a',c',e',hs'⟩:=HO9.out.sl;rw [Value.slice.injEq] at e';obtain ⟨rfl,_,rfl⟩:=e';exact hJ (hs'.mono (fun q hq _=>by have hq:W7.heap.size≤q:=hq.elim False.elim id;omega))
  go_upto_region 11 with fail
  obtain ⟨HB10,hk10,hz10⟩:=box1 w9 27 [.string aS,.string ⟨#[]⟩,.slice gb 0 gd];have k0:=box0 hk10 0 _ rfl;have k1:=box0 hk10 1 _ rfl;have k2:=box0 hk10 2 _ rfl;clear hk10 x0 x1 x2 x3 x4;generalize w9.alloc (.cells [.string aS,.string ⟨#[]⟩,.slice gb 0 gd].toArray 27)=W10 at *;have y0:=kAE y0 _ HB10.out;have y1:=kAE y1 _ HB10.out;have y2:=kAE y2 _ HB10.out;have hcp:=HPp9.out.cap;have hct:=HTt9.out.cap;have hm9:=HM9.out.lt;have HP:Hid (∀ W,Below w9.heap.size w9 W→_):=hJ (fun W hW=>mat_pair2 (ag:=gb) (as_:=sb) (cg:=gd) (cs:=sd) (HM9.out.below hW HM9.out.lt) (HBs.out.below hW) hcp hct)
  go_cut [11] (fun v W=>v= .int .i64 0∧Hid (Bx W w3.heap.size 92 [.slice ab 1 cb,.slice ap 1 cp,.slice at_ 1 ct])∧Hid (Kb w3.heap.size W10 W))
  case first =>
   go_region_held3 (fun W=>W.cell? ⟨w9.heap.size,0,none⟩=some (.string aS)∧W.cell? ⟨w9.heap.size,1,none⟩=some (.string ⟨#[]⟩)∧W.cell? ⟨w9.heap.size,2,none⟩=some (.slice gb 0 gd)∧W.cell? ⟨b8,o8+3,none⟩=some (.string iS)∧W.cell? ⟨b8,o8+4,none⟩=some (.string ⟨#[]⟩)∧W.cell? ⟨b8,o8+5,none⟩=some (.slice sb 0 sd)) (first | (with_reducible exact ⟨z0,z1,z2,z3,z4,z5⟩) | (with_reducible exact ⟨k0,k1,k2,y0,y1,y2⟩) | go_keep) (first
    | (go_at_call 53
       refine (HP.out W10.drew HB10.out.drew).mono ?_;rintro e w11 ⟨rfl,hM11,hK11⟩;have z0:=kDD (w:=W10.drew) k0 hK11 (by show w9.heap.size≠w3.heap.size;omega);have z1:=kDD (w:=W10.drew) k1 hK11 (by show w9.heap.size≠w3.heap.size;omega);have z2:=kDD (w:=W10.drew) k2 hK11 (by show w9.heap.size≠w3.heap.size;omega);have z3:=kDD (w:=W10.drew) y0 hK11 (fun e=>by have e:b8=w3.heap.size:=e;rcases hi8 with h | h <;> omega);have z4:=kDD (w:=W10.drew) y1 hK11 (fun e=>by have e:b8=w3.heap.size:=e;rcases hi8 with h | h <;> omega);have z5:=kDD (w:=W10.drew) y2 hK11 (fun e=>by have e:b8=w3.heap.size:=e;rcases hi8 with h | h <;> omega)))
   all_goals
    have HRa:=hJ (And.intro hM11 hK11);clear hM11 hK11 z0 z1 z2 z3 z4 z5
    go_wp2_with fail
    go_meet
    exact ⟨rfl,hJ HRa.out.1,hJ ⟨HRa.out.2.os,HRa.out.2.tape,HRa.out.2.output,HRa.out.2.size,HRa.out.2.block⟩⟩
  case rest =>
   obtain ⟨rfl,HMd,HKd⟩:=hcut;have y2c:=kDD y2 HKd.out hi8';have hzd:=HKd.out.size;have HA12:=hJ ((HA9.out.below HB10.out HA9.out.lt).kb HKd.out (by omega));have HO12:=hJ ((HO9.out.below HB10.out).kb HKd.out (fun _ h=>h.elim) (by omega));have HPp12:=hJ ((HPp9.out.below HB10.out).kb HKd.out (fun q hq e=>by rcases hq with h | h <;> omega));have HTt12:=hJ ((HTt9.out.below HB10.out).kb HKd.out (fun q hq e=>by rcases hq with h | h <;> omega));have HW12:=hJ (HW9.out.trans ((HB10.out.mono HW9.out.size).trans (HKd.out.below hw3 (by omega))));clear y0 y1 y2 k0 k1 k2 HP HBs HM9 HO9 HPp9 HTt9 HS99 HS89 HA9 HW9 HB10 HKd
   go_wp2_with (at_builtin;refine app_nothing kA2 rfl _ _ rfl a10 1 c10 hc10 rfl sb sd rfl ?_)
   rw [rounds_succ];have xa0:=HA12.out.cell 0 _ rfl;have xa1:=HA12.out.cell 1 _ rfl;have xa2:=HA12.out.cell 2 _ rfl;have xa3:=HA12.out.cell 3 _ rfl;have xa4:=HA12.out.cell 4 _ rfl;have hbs:W7.heap.size≤wc.heap.size:=by omega
   have HD:=hJ (mat_dims HMd.out HO12.out hbs (by omega) HPp12.out HTt12.out (RSch.below HR1.out HW12.out) (HE.out _ HW12.out))
   change Hid (Calls _ _ #[_,.agg #[.slice p1 1 c1,.string aS,.string ⟨#[]⟩,.slice t1 0 d1,.slice q1 0 e1]] _ _) at HD
   go_wp2_with fail
   refine HD.out.mono ?_;rintro e w13 ⟨rfl,⟨ad,cd,hM13,hO13⟩,hK13⟩;have HM13:=hJ hM13;have HA13:Hid (Bx w13 w.heap.size 29 [.slice p1 1 c1,.string aS,.string ⟨#[]⟩,.slice t1 0 d1,.slice q1 0 e1]):=hJ ((hK13.block w.heap.size (by omega) (by omega)).trans HA12.out);have HW13:Hid (Below w.heap.size w w13):=hJ (HW12.out.trans ⟨hK13.os,hK13.tape,hK13.output,hK13.size,fun k hk=>hK13.block k (by omega) (by omega)⟩);have hz13:=hK13.size;have HSo:=hJ (sortFunc_Bnd hO13 (by omega) (by decide) 57 (kBJ func57 rfl rfl) cmpK preB (fun S' T' W x y cs ds h1 h2=>inst_cmp h1 h2));clear hM13 hO13 hK13 HD xa0 xa1 xa2 xa3 xa4 HMd HO12 HPp12 HTt12 HW12 HA12;have xa2:=HA13.out.cell 4 _ rfl;have m0:=HM13.out.cell 0 _ rfl
   go_wp2_with fail
   refine wp_loop_rounds 1 ?_;rw [rounds_succ]
   go_wp2_with fail
   refine wp_loop_rounds 1 ?_;rw [rounds_succ]
   go_wp2_with fail
   refine HSo.out.mono ?_;rintro e w14 ⟨⟨rfl,m,hpm,hle,hom,_⟩,hb14⟩;rw [two_sorted hpm hle] at hom;have HM14:=hJ (HM13.out.below hb14 (by omega));have HW14:=hJ (HW13.out.trans (hb14.mono (by omega)));obtain ⟨a',c',e',hs'⟩:=hom.sl;rw [Value.slice.injEq] at e';obtain ⟨rfl,_,rfl⟩:=e';have HF:Hid (Sl RBnd (fun q=>w.heap.size≤q) w14 ad 2 cd [bd3,bA]):=hJ (hs'.mono (fun q hq _=>by have hq:W7.heap.size≤q:=hq.elim False.elim id;omega));clear hs' hom hpm hle hb14 m0 xa2;have m0:=HM14.out.cell 0 _ rfl
   go_wp2_with fail
   go_returns
   exact ⟨⟨ad,cd,rfl,HF.out⟩,HW14.out⟩
end Go.Proofs.YtcjfagnlmlkedaaGreatDoor
