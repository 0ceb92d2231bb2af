/- The claim's texts, part U4: contracts of the functions that the statement reaches, and what they say of the data. -/
import Derived.Test.YtkndimjghfomcaaGreatDoorU3
set_option maxRecDepth 100000
set_option maxHeartbeats 8000000
set_option linter.all false
namespace Go.Proofs.YtkndimjghfomcaaGreatDoor
open Go.Proofs.Tryz
open Go.RowKit
def nameP (n:Int) (s:Str) (k:Nat):Int × Str × Bool × Nat:=(n,s.extract k (runL s k),kAT (s.extract k (runL s k)),runL s k)
def itemQ (n:Int) (s:Str) (e:Nat):Int × Str × Bool × Nat :=
 if isAt s (blk s e) 42 then nameP n s (blk s (blk s e+1))
 else if decide (s.size≤e) || !kB4 (bt s e) then (n,⟨#[]⟩,true,e)
 else nameP n s e
def kBW (s:Str) (k:Nat):Int × Str × Bool × Nat :=
 if s.size≤k then (0,⟨#[]⟩,false,k)
 else if kAP (bt s k) then if kGC (s.extract k (runD s k)) then itemQ (decV (s.extract k (runD s k))) s (runD s k) else (0,⟨#[]⟩,false,runD s k)
 else nameP 1 s k
structure RSt (s:Str) (k p bm n:Nat) (x:Lin) (w:World):Prop where
 rd:kEY s k p x.const bm w
 mp:∃ D,MapF w bm n D (kAN x.terms)
 ne:p≠bm
theorem RSt.step {s:Str} {k k' p bm n:Nat} {x:Lin} {w w':World} (h:RSt s k p bm n x w) (hx:kEY s k' p x.const bm w') (hk:Kb p w w'):RSt s k' p bm n x w' :=
 ⟨hx,h.mp.imp fun D hm=>⟨by
   obtain ⟨es,clock,h1,h2⟩:=hm.own;exact ⟨es,clock,(hk.block bm hm.lt (Ne.symm h.ne)).trans h1,h2⟩,hm.at_⟩,h.ne⟩
theorem kJD (x:Lin) (n:Int) {v:Str} (h:v.toList.isEmpty=true):kEX x n v=⟨x.const+n,x.terms⟩:=by unfold kEX;rw [if_pos h]
theorem accum_name (x:Lin) (n:Int) {v:Str} (h:v.toList.isEmpty=false):kEX x n v=⟨x.const,plus x.terms v n⟩:=by unfold kEX;rw [if_neg (by rw [h];decide)]
theorem RSt.put {s:Str} {k p bm n:Nat} {x:Lin} {w w':World} (h:RSt s k p bm n x w) (hs:Srt x.terms) {v:Str} {c:Int} {D':DataW Unit} (hm:MapF w' bm (n+1) D' (fun u=>if seq v u then kAN x.terms v+c else kAN x.terms u)) (hg:w.grownBy w' (some bm)) (hv:v.toList.isEmpty=false):RSt s k p bm (n+1) (kEX x c v) w':=by
 rw [accum_name x c hv];refine ⟨(hg.block p h.rd.lt (fun e=>h.ne (by cases e;rfl))).trans h.rd,⟨D',hm.own,fun u=>?_⟩,h.ne⟩;rw [hm.at_ u]
 show _=DataW.lit (.int .i64 (kAN (plus x.terms v c) u))
 rw [plus_coef hs v c u];by_cases q:seq v u=true
 · rw [if_pos q,if_pos q,(kA4 v u).1 q]
 · rw [if_neg q,if_neg q,Int.add_zero]
def itemRes (r:Int × Str × Bool × Nat) (sg:Int) (s:Str) (p bm n:Nat) (x:Lin) (w:World) (e:Ending) (w':World):Prop :=
 e= .returned (.bool r.2.2.1)∧K2 p bm w w'∧(r.2.2.1=true→∃ n',n'≤n+1∧RSt s r.2.2.2 p bm n' (kEX x (sg * r.1) r.2.1) w')
theorem K2.of_kb {p b:Nat} {w w':World} (h:Kb p w w'):K2 p b w w':=⟨h.os,h.tape,h.output,h.size,fun k hk h1 _=>h.block k hk h1⟩
theorem rdr_item (s:Str) (hs:s.size≤1000000) (k p bm n m:Nat) (x:Lin) (w:World) (hb:RSt s k p bm n x w) (hk:k≤s.size) (sg:Int) (hsg:sg=1∨sg= -1) (E:Env w) (hp8:8≤p) (hb8:8≤bm) (hA:AccOk m x) (hm:m≤1000000) (hn:n≤1000000) :
 Calls Tryz.prog 132 #[.pointer (some ⟨p,0,none⟩),.int .i64 sg] w (itemRes (kBW s k) sg s p bm n x w):=by
 have HS:=hJ hb;have HE:=hJ E;have z0:=hb.rd.cell 0 _ rfl;have hsz:(s.extract k s.size).size=s.size - k:=kBN s (Nat.le_refl _);clear hb E;by_cases hend:s.size≤k
 · have HF:Hid (kBW s k=(0,⟨#[]⟩,false,k)):=hJ (by unfold kBW;rw [if_pos hend])
   have hem:(s.extract k s.size).toList.isEmpty=true:=by rw [ByteArray.toList_eq,show (s.extract k s.size).data.toList=[] from List.eq_nil_of_length_eq_zero (by rw [Array.length_toList];show (s.extract k s.size).size=0;omega)];rfl
   generalize s.extract k s.size=r at *;go_enter func132,ntmps132
   go_wp2_with fail
   go_ret;exact ⟨by rw [HF.out];rfl,K2.refl _ _ _,fun h=>by rw [HF.out] at h;cases h⟩
 · have hlt:k<s.size:=by omega
   have hem:(s.extract k s.size).toList.isEmpty=false:=by
    cases he:(s.extract k s.size).toList.isEmpty with
    | false=>rfl
    | true=>have:=kG3 he;omega
   have hb0:bt (s.extract k s.size) 0=bt s k:=by rw [kJK s (Nat.le_refl _) (by omega),Nat.add_zero]
   generalize s.extract k s.size=r at *;have g0:=kBP r 0 (by omega);rw [hb0] at g0;have hrl:(0:Int)<(r.size:Int):=by omega
   clear hb0;have HC:=hJ (kFL (bt s k));by_cases hd:kAP (bt s k)=true
   · have HC2:=HC.out
     rw [hd] at HC2;have HC:=hJ HC2;have HI:Hid (kBW s k=if kGC (s.extract k (runD s k)) then itemQ (decV (s.extract k (runD s k))) s (runD s k) else (0,⟨#[]⟩,false,runD s k)):=hJ (by unfold kBW;rw [if_neg hend,if_pos hd]);have hdg:=kI4 hk;have hke:k≤runD s k:=kB1 _ _ _;have hes:runD s k≤s.size:=kCE hk;have HNu:=hJ (rdr_number s hs k p x.const bm w HS.out.rd hk HE.out hp8)
     have HOk:Hid (kGC (s.extract k (runD s k))=true→0≤decV (s.extract k (runD s k))∧decV (s.extract k (runD s k))<10000000):=hJ (fun h=>by
      unfold kGC at h;rw [Bool.and_eq_true] at h;have h7:=of_decide_eq_true h.1;exact decK_lt hdg h7.2 (Nat.le_refl _))
     clear HC2 hd hdg;generalize bt s k=c0 at *;generalize s.extract k (runD s k)=d at *;generalize runD s k=e at *;go_enter func132,ntmps132
     go_wp2_with fail
     refine (HC.out _).mono ?_;rintro e _ ⟨rfl,rfl⟩
     go_wp2_with fail
     refine HNu.out.mono ?_;rintro e2 w1 ⟨⟨n0,rfl,hn0⟩,hx1,hk1⟩;have HS1:=hJ (HS.out.step hx1 hk1);have HK1:=hJ (K2.of_kb (b:=bm) hk1);have HE1:=hJ (HE.out.kb hk1 hp8);clear hx1 hk1 HNu HC z0;cases hno:kGC d with
     | false =>
       have HF:Hid (kBW s k=(0,⟨#[]⟩,false,e)):=hJ (by rw [HI.out,if_neg (by rw [hno];decide)])
       go_wp2_with fail
       go_ret;exact ⟨by rw [HF.out];rfl,HK1.out,fun h=>by rw [HF.out] at h;cases h⟩
     | true =>
       have hv:=hn0 hno;obtain ⟨h0,h1⟩:=HOk.out hno;have HI2:Hid (kBW s k=itemQ (decV d) s e):=hJ (by rw [HI.out,if_pos hno]);rw [← hv] at h0 h1 HI2;clear hn0 hno hv HOk HI;have hb: -10000000≤sg * n0∧sg * n0≤10000000:=by rcases hsg with rfl | rfl <;> omega
       have hp1:IntKind.i64.wrap (sg * n0)=sg * n0:=by rw [IntKind.wrap_i64];omega
       have hp2: -9223372036854775808≤sg * n0:=by omega
       have hp3:sg * n0≤9223372036854775807:=by omega
       have HQ1:Hid (isAt s (blk s e) 42=true→kBW s k=nameP n0 s (blk s (blk s e+1))):=hJ (fun q=>by rw [HI2.out];unfold itemQ;rw [if_pos q]);have HQ2:Hid (isAt s (blk s e) 42=false→(decide (s.size≤e) || !kB4 (bt s e))=true→kBW s k=(n0,⟨#[]⟩,true,e)):=hJ (fun q q2=>by rw [HI2.out];unfold itemQ;rw [if_neg (by rw [q];decide),if_pos q2]);have HQ3:Hid (isAt s (blk s e) 42=false→(decide (s.size≤e) || !kB4 (bt s e))=false→kBW s k=nameP n0 s e):=hJ (fun q q2=>by rw [HI2.out];unfold itemQ;rw [if_neg (by rw [q];decide),if_neg (by rw [q2];decide)]);have z1:=HS1.out.rd.cell 0 _ rfl;have HT:Hid ((⟨(Lib.trimLeftB (s.extract e s.size).data.toList 32).toArray⟩:Str)=s.extract (blk s e) s.size):=hJ (mk_eq (by rw [kJJ,kJJ];exact trim_sub s _ e (Nat.le_refl _)));have HTr:=Tryz.strings_TrimLeft_one (s.extract e s.size) 32 (by decide) w1;rw [HT.out] at HTr;have HTr:=hJ HTr;have hPr:=Tryz.strings_HasPrefix (s.extract (blk s e) s.size) ⟨#[42]⟩ w1
       change Calls _ _ _ _ fun e w'=>e= .returned (.bool (Lib.hasPrefix _ [42]))∧_ at hPr
       rw [pre_one] at hPr;have hbe:blk s e≤s.size:=kFS hes;have HX1:Hid (blk s e<s.size→(s.extract (blk s e) s.size).extract 1 (s.size - blk s e)=s.extract (blk s e+1) s.size):=hJ (fun hj=>by rw [sub_sub s (by omega),show blk s e+(s.size - blk s e)=s.size by omega]);have hsa:(s.extract (blk s e) s.size).size=s.size - blk s e:=kBN s (Nat.le_refl _);have hse:(s.extract e s.size).size=s.size - e:=kBN s (Nat.le_refl _);have HBte:Hid (e<s.size→bt (s.extract e s.size) 0=bt s e):=hJ (fun h=>by rw [kJK s (Nat.le_refl _) (by omega),Nat.add_zero]);have hU:kEY s e p x.const bm w1=Bx w1 p 148 [.string (s.extract e s.size),.int .i64 x.const,.map (some bm)]:=rfl;have HU:=hJ hU;clear HT hU HI2;cases ha:isAt s (blk s e) 42 with
       | true =>
         rw [show isAt s (blk s e) ((42:UInt8).toNat:Int)=true from ha] at hPr;have HPr:=hJ hPr;have hlt1:=kCR ha;have HF:=hJ (HQ1.out ha);have HX2:=hJ (HX1.out hlt1);have hone:(1:Int)≤((s.extract (blk s e) s.size).size:Int):=by omega
         have f1:=HS1.out.rd.fz 0;clear hPr HQ1 HQ2 HQ3 HX1 ha HBte hse HS;generalize blk s e=b1 at *;generalize s.extract b1 s.size=af at *;generalize s.extract e s.size=re at *
         go_wp2_with fail
         refine HTr.out.mono ?_;rintro e3 w1 ⟨rfl,rfl⟩
         go_wp2_with fail
         refine HPr.out.mono ?_;rintro e3 w1 ⟨rfl,rfl⟩
         have HSa:Hid (RSt s (b1+1) p bm n x (w1.setCell ⟨p,0,none⟩ (.string (af.extract 1 (s.size - b1))))):=hJ (HS1.out.step (by
          have h1:=HS1.out.rd;rw [HU.out] at h1;unfold kEY;rw [← HX2.out];exact h1.set 0 _) ((Kb.refl p _).set _ _))
         have HKa:=hJ (HK1.out.trans (K2.set (b:=bm) w1 0 (.string (af.extract 1 (s.size - b1)))));have HEa:=hJ (HE1.out.kb ((Kb.refl p _).set 0 (.string (af.extract 1 (s.size - b1)))) hp8)
         go_wp2_with fail
         clear HTr HPr z1 f1 HS1 HE1 HK1 HU HX2;generalize w1.setCell ⟨p,0,none⟩ (.string (af.extract 1 (s.size - b1)))=w2 at *;refine (kH7 s (b1+1) p x.const bm _ HSa.out.rd).mono ?_;rintro e3 w3 ⟨rfl,hx3,hk3⟩;have HSq:=hJ (HSa.out.step hx3 hk3);have HKq:=hJ (HKa.out.trans (K2.of_kb hk3));have HEq:=hJ (HEa.out.kb hk3 hp8);have hbs:blk s (b1+1)≤s.size:=kFS (by omega);clear hx3 hk3 HSa HKa HEa;generalize blk s (b1+1)=b2 at *
         go_wp2_with fail
         refine (kHM s hs b2 p x.const bm _ HSq.out.rd hbs HEq.out hp8).mono ?_;rintro e w2 ⟨rfl,hx2,hk2⟩;have HS2:=hJ (HSq.out.step hx2 hk2);have HK2:=hJ (HKq.out.trans (K2.of_kb hk2));have hvs:(s.extract b2 (runL s b2)).size≤maxLen:=by rw [ByteArray.size_extract];unfold maxLen;omega
         have HNP:Hid (kBW s k=(n0,s.extract b2 (runL s b2),kAT (s.extract b2 (runL s b2)),runL s b2)):=hJ HF.out;clear hx2 hk2 HSq HKq HEq HF;generalize s.extract b2 (runL s b2)=v at *;generalize runL s b2=k9 at *;obtain ⟨D,hM⟩:=HS2.out.mp;have hcb:=kGM (by omega) hA.bd v;have hlk:=hM.look v hvs;have hw2:IntKind.i64.wrap (kAN x.terms v+(sg * n0))=kAN x.terms v+(sg * n0):=by rw [IntKind.wrap_i64];omega
         obtain ⟨w6,D6,hr6,hM6,hg6⟩:=hM.put (by unfold maxLen;omega) v hvs (kAN x.terms v+(sg * n0)) (by omega);have y2:=HS2.out.rd.cell 2 _ rfl;have HK6:Hid (K2 p bm w w6):=hJ (HK2.out.trans (K2.of_grown hg6));have HP6:Hid (kAT v=true→RSt s k9 p bm (n+1) (kEX x ((sg * n0)) v) w6):=hJ (fun h=>HS2.out.put hA.srt hM6 hg6 (kGE h));clear hcb hM hM6 hg6 HK2 HS2;generalize kAN x.terms v=cf at *;generalize kAT v=o at *
         go_wp2_with fail
         go_ret;exact ⟨by rw [HNP.out];rfl,HK6.out,fun h=>by rw [HNP.out] at h ⊢;exact ⟨n+1,Nat.le_refl _,by rw [show sg * (n0:Int)=(sg * n0) by first | rfl | omega];exact HP6.out h⟩⟩
       | false =>
         rw [show isAt s (blk s e) ((42:UInt8).toNat:Int)=false from ha] at hPr;have HPr:=hJ hPr;have HR2:=hJ (HQ2.out ha);have HR3:=hJ (HQ3.out ha);clear hPr HQ1 HQ2 HQ3 HX1 ha HS;generalize blk s e=b1 at *;generalize s.extract b1 s.size=af at *;generalize s.extract e s.size=re at *;by_cases hee:s.size≤e
         · have HF:=hJ (HR2.out (by rw [decide_eq_true hee];rfl))
           have hem2:re.toList.isEmpty=true:=by rw [ByteArray.toList_eq,show re.data.toList=[] from List.eq_nil_of_length_eq_zero (by rw [Array.length_toList];show re.size=0;omega)];rfl
           clear HR2 HR3 HBte
           go_wp2_with fail
           refine HTr.out.mono ?_;rintro e3 w1 ⟨rfl,rfl⟩
           go_wp2_with fail
           refine HPr.out.mono ?_;rintro e3 w1 ⟨rfl,rfl⟩;clear HTr HPr;have z2:=HS1.out.rd.cell 1 _ rfl;have f2:=HS1.out.rd.fz 1;have hcc:=hA.const;have hw2:IntKind.i64.wrap (x.const+sg * n0)=x.const+sg * n0:=by rw [IntKind.wrap_i64];omega
           have HSc:Hid (RSt s e p bm n (kEX x (sg * n0) ⟨#[]⟩) (w1.setCell ⟨p,1,none⟩ (.int .i64 (x.const+sg * n0)))):=hJ (by
            rw [kJD x _ (by rw [ByteArray.toList_eq];rfl)];exact ⟨HS1.out.rd.set 1 _,HS1.out.mp.imp fun D hm=>hm.setCell (by show p≠bm;exact HS1.out.ne) _,HS1.out.ne⟩)
           have HKc:=hJ (HK1.out.trans (K2.set (b:=bm) w1 1 (.int .i64 (x.const+sg * n0))));clear hcc
           go_wp2_with fail
           go_ret;exact ⟨by rw [HF.out];rfl,HKc.out,fun _=>by rw [HF.out];exact ⟨n,Nat.le_succ _,HSc.out⟩⟩
         · have hlte:e<s.size:=by omega
           have hem2:re.toList.isEmpty=false:=by
            cases he:re.toList.isEmpty with
            | false=>rfl
            | true=>have:=kG3 he;omega
           have h0re:0<re.size:=by rw [hse];omega
           have ge:=kBP re 0 h0re;rw [HBte.out hlte] at ge;clear HBte;have hrl2:(0:Int)<(re.size:Int):=by omega
           have hL:=fun W=>kJ1 (bt s e) W
           generalize bt s e=ce at *;cases hl:kB4 ce with
           | true =>
             have HF:=hJ (HR3.out (by rw [decide_eq_false hee,hl];rfl));rw [hl] at hL;have HL:=hJ hL;clear hL HR2 HR3
             go_wp2_with fail
             refine HTr.out.mono ?_;rintro e3 w1 ⟨rfl,rfl⟩
             go_wp2_with fail
             refine HPr.out.mono ?_;rintro e3 w1 ⟨rfl,rfl⟩;clear HTr HPr
             go_wp2_with fail
             refine (HL.out _).mono ?_;rintro e _ ⟨rfl,rfl⟩
             go_wp2_with fail
             have HSq:=HS1;have HKq:=HK1;have HEq:=HE1;have hbs:=hes;refine (kHM s hs e p x.const bm _ HSq.out.rd hbs HEq.out hp8).mono ?_;rintro e w2 ⟨rfl,hx2,hk2⟩;have HS2:=hJ (HSq.out.step hx2 hk2);have HK2:=hJ (HKq.out.trans (K2.of_kb hk2));have hvs:(s.extract e (runL s e)).size≤maxLen:=by rw [ByteArray.size_extract];unfold maxLen;omega
             have HNP:Hid (kBW s k=(n0,s.extract e (runL s e),kAT (s.extract e (runL s e)),runL s e)):=hJ HF.out;clear hx2 hk2 HSq HKq HEq HF;generalize s.extract e (runL s e)=v at *;generalize runL s e=k9 at *;obtain ⟨D,hM⟩:=HS2.out.mp;have hcb:=kGM (by omega) hA.bd v;have hlk:=hM.look v hvs;have hw2:IntKind.i64.wrap (kAN x.terms v+(sg * n0))=kAN x.terms v+(sg * n0):=by rw [IntKind.wrap_i64];omega
             obtain ⟨w6,D6,hr6,hM6,hg6⟩:=hM.put (by unfold maxLen;omega) v hvs (kAN x.terms v+(sg * n0)) (by omega);have y2:=HS2.out.rd.cell 2 _ rfl;have HK6:Hid (K2 p bm w w6):=hJ (HK2.out.trans (K2.of_grown hg6));have HP6:Hid (kAT v=true→RSt s k9 p bm (n+1) (kEX x ((sg * n0)) v) w6):=hJ (fun h=>HS2.out.put hA.srt hM6 hg6 (kGE h));clear hcb hM hM6 hg6 HK2 HS2;generalize kAN x.terms v=cf at *;generalize kAT v=o at *
             go_wp2_with fail
             go_ret;exact ⟨by rw [HNP.out];rfl,HK6.out,fun h=>by rw [HNP.out] at h ⊢;exact ⟨n+1,Nat.le_refl _,by rw [show sg * (n0:Int)=(sg * n0) by first | rfl | omega];exact HP6.out h⟩⟩
           | false =>
             have HF:=hJ (HR2.out (by rw [decide_eq_false hee,hl];rfl));rw [hl] at hL;have HL:=hJ hL;clear hL HR2 HR3
             go_wp2_with fail
             refine HTr.out.mono ?_;rintro e3 w1 ⟨rfl,rfl⟩
             go_wp2_with fail
             refine HPr.out.mono ?_;rintro e3 w1 ⟨rfl,rfl⟩;clear HTr HPr;have z2:=HS1.out.rd.cell 1 _ rfl;have f2:=HS1.out.rd.fz 1;have hcc:=hA.const;have hw2:IntKind.i64.wrap (x.const+sg * n0)=x.const+sg * n0:=by rw [IntKind.wrap_i64];omega
             have HSc:Hid (RSt s e p bm n (kEX x (sg * n0) ⟨#[]⟩) (w1.setCell ⟨p,1,none⟩ (.int .i64 (x.const+sg * n0)))):=hJ (by
              rw [kJD x _ (by rw [ByteArray.toList_eq];rfl)];exact ⟨HS1.out.rd.set 1 _,HS1.out.mp.imp fun D hm=>hm.setCell (by show p≠bm;exact HS1.out.ne) _,HS1.out.ne⟩)
             have HKc:=hJ (HK1.out.trans (K2.set (b:=bm) w1 1 (.int .i64 (x.const+sg * n0))));clear hcc
             go_wp2_with fail
             refine (HL.out _).mono ?_;rintro e _ ⟨rfl,rfl⟩
             go_wp2_with fail
             go_wp2_with fail
             go_ret;exact ⟨by rw [HF.out];rfl,HKc.out,fun _=>by rw [HF.out];exact ⟨n,Nat.le_succ _,HSc.out⟩⟩
   · have hd:kAP (bt s k)=false:=by simpa using hd
     have HF:Hid (kBW s k=nameP 1 s k):=hJ (by unfold kBW;rw [if_neg hend,if_neg (by rw [hd];decide)]);have HC2:=HC.out;rw [hd] at HC2;have HC:=hJ HC2;have HSq:=HS;have HKq:=hJ (K2.refl p bm w);have HEq:=HE;have hbs:=hk;clear HC2 hd;generalize bt s k=c0 at *;go_enter func132,ntmps132
     go_wp2_with fail
     refine (HC.out _).mono ?_;rintro e _ ⟨rfl,rfl⟩
     go_wp2_with fail
     refine (kHM s hs k p x.const bm _ HSq.out.rd hbs HEq.out hp8).mono ?_;rintro e w2 ⟨rfl,hx2,hk2⟩;have HS2:=hJ (HSq.out.step hx2 hk2);have HK2:=hJ (HKq.out.trans (K2.of_kb hk2));have hvs:(s.extract k (runL s k)).size≤maxLen:=by rw [ByteArray.size_extract];unfold maxLen;omega
     have HNP:Hid (kBW s k=(1,s.extract k (runL s k),kAT (s.extract k (runL s k)),runL s k)):=hJ HF.out;clear hx2 hk2 HSq HKq HEq HF;generalize s.extract k (runL s k)=v at *;generalize runL s k=k9 at *;obtain ⟨D,hM⟩:=HS2.out.mp;have hcb:=kGM (by omega) hA.bd v;have hlk:=hM.look v hvs;have hw2:IntKind.i64.wrap (kAN x.terms v+sg)=kAN x.terms v+sg:=by rw [IntKind.wrap_i64];omega
     obtain ⟨w6,D6,hr6,hM6,hg6⟩:=hM.put (by unfold maxLen;omega) v hvs (kAN x.terms v+sg) (by omega);have y2:=HS2.out.rd.cell 2 _ rfl;have HK6:Hid (K2 p bm w w6):=hJ (HK2.out.trans (K2.of_grown hg6));have HP6:Hid (kAT v=true→RSt s k9 p bm (n+1) (kEX x (sg) v) w6):=hJ (fun h=>HS2.out.put hA.srt hM6 hg6 (kGE h));clear hcb hM hM6 hg6 HK2 HS2;generalize kAN x.terms v=cf at *;generalize kAT v=o at *
     go_wp2_with fail
     go_ret;exact ⟨by rw [HNP.out];rfl,HK6.out,fun h=>by rw [HNP.out] at h ⊢;exact ⟨n+1,Nat.le_refl _,by rw [show sg * (1:Int)=sg by first | rfl | omega];exact HP6.out h⟩⟩
theorem digit10 {n:Nat} (h:n<10):(⟨#[48,49,50,51,52,53,54,55,56,57]⟩:Str).extract n (n+1)=kAR (n:Int):=by
 unfold kAR;rw [Lib.itoa_nonneg,Lib.decDigits_one h];have:n=0∨n=1∨n=2∨n=3∨n=4∨n=5∨n=6∨n=7∨n=8∨n=9:=by omega
 rcases this with rfl | rfl | rfl | rfl | rfl | rfl | rfl | rfl | rfl | rfl <;> rfl
theorem itoa_split {n:Nat} (h:¬ n<10):kAR ((n / 10:Nat):Int)++kAR ((n % 10:Nat):Int)=kAR (n:Int):=by
 unfold kAR;rw [Lib.itoa_nonneg,Lib.itoa_nonneg,Lib.itoa_nonneg,Lib.decDigits_one (i:=n % 10) (by omega)];rw [show Lib.decDigits n=Lib.decDigits (n / 10)++[UInt8.ofNat (48+n % 10)] from by rw [Lib.decDigits,dif_neg h]];apply ByteArray.ext;rw [ByteArray.data_append];simp
theorem itoa_minus {n:Nat} (h:1≤n):(⟨#[45]⟩:Str)++kAR (n:Int)=kAR (-(n:Int)):=by
 unfold kAR;rw [Lib.itoa_nonneg,Lib.itoa_neg n h];apply ByteArray.ext;rw [ByteArray.data_append];simp
theorem kIP:∀ (d n:Nat),n≤d→n≤10000000→∀ w,Calls Tryz.prog 128 #[.int .i64 (n:Int)] w fun e w'=>e= .returned (.string (kAR (n:Int)))∧Below w.heap.size w w':=by
 intro d
 induction d with
 | zero =>
   intro n hn hn2 w;obtain rfl:n=0:=by omega
   have HD:=hJ (digit10 (n:=0) (by decide));go_enter func128,ntmps128
   go_wp2_with fail
   go_ret;exact ⟨by rw [← HD.out];rfl,Below.refl _ _⟩
 | succ d ih =>
   intro n hn hn2 w;by_cases h10:n<10
   · have HD:=hJ (digit10 h10)
     have q1:¬ ((n:Int)<0):=by omega
     have q2:(n:Int)<10:=by omega
     have q3:(n:Int)≤(n:Int)+1:=by omega
     have q4:(n:Int)+1≤10:=by omega
     go_enter func128,ntmps128
     go_wp2_with fail
     go_ret;exact ⟨by rw [← HD.out];rfl,Below.refl _ _⟩
   · have HA:=hJ (fun W=>ih (n / 10) (by omega) (by omega) W)
     have HB:Hid (∀ W,Calls Tryz.prog 128 #[.int .i64 ((n:Int) % 10)] W fun e w'=>e= .returned (.string (kAR ((n:Int) % 10)))∧Below W.heap.size W w'):=hJ (fun W=>ih (n % 10) (by omega) (by omega) W);have HS:Hid (kAR ((n:Int) / 10)++kAR ((n:Int) % 10)=kAR (n:Int)):=hJ (itoa_split h10);have hz1:=kDA ((n:Int) / 10) (by omega) (by omega);have hz2:=kDA ((n:Int) % 10) (by omega) (by omega);have q1:¬ ((n:Int)<0):=by omega
     have q2:¬ ((n:Int)<10):=by omega
     have q0:(0:Int)≤(n:Int):=by omega
     clear ih;go_enter func128,ntmps128
     go_wp2_with fail
     refine (HA.out _).mono ?_;rintro e w1 ⟨rfl,hb1⟩
     go_wp2_with fail
     refine (HB.out _).mono ?_;rintro e w2 ⟨rfl,hb2⟩;generalize kAR ((n:Int) / 10)=a at *;generalize kAR ((n:Int) % 10)=b at *
     go_wp2_with fail
     go_ret;exact ⟨by rw [← HS.out];rfl,hb1.trans (hb2.mono hb1.size)⟩
theorem kF8 (n:Int) (h0: -10000000≤n) (h1:n≤10000000) (w:World):Calls Tryz.prog 128 #[.int .i64 n] w fun e w'=>e= .returned (.string (kAR n))∧Below w.heap.size w w':=by
 rcases Int.lt_or_le n 0 with hn | hn
 · obtain ⟨m,rfl⟩:∃ m:Nat,n= -(m:Int):=⟨n.natAbs,by omega⟩
   have HA:=hJ (fun W=>kIP m m (Nat.le_refl _) (by omega) W);have HS:=hJ (itoa_minus (n:=m) (by omega));have hz:=kDA (m:Int) (by omega) (by omega);have q1: -(m:Int)<0:=hn;go_enter func128,ntmps128
   go_wp2_with fail
   refine (HA.out _).mono ?_;rintro e w1 ⟨rfl,hb1⟩;generalize kAR (m:Int)=a at *
   go_wp2_with fail
   go_ret;exact ⟨by rw [← HS.out];rfl,hb1⟩
 · obtain ⟨m,rfl⟩:∃ m:Nat,n=(m:Int):=⟨n.toNat,by omega⟩
   exact kIP m m (Nat.le_refl _) (by omega) w
theorem kDR (b:Str):(⟨#[]⟩:Str)++b=b:=ByteArray.empty_append
theorem kCZ (b:Str):b++(⟨#[]⟩:Str)=b:=ByteArray.append_empty
theorem cut_m1:cutS (kAR (-1))=⟨#[45]⟩:=by
 unfold cutS kAR;rw [show Lib.itoa (-1)=45 :: Lib.decDigits 1 from Lib.itoa_neg 1 (by decide),Lib.decDigits_one (by decide)];rfl
theorem cut_1:cutS (kAR 1)=⟨#[]⟩:=by
 unfold cutS kAR;rw [show Lib.itoa 1=Lib.decDigits 1 from Lib.itoa_nonneg 1,Lib.decDigits_one (by decide)];rfl
theorem part_neg {o v:Str} {c:Int} (hc:c< -1):kCO o c v=((o++⟨#[45]⟩)++kAR (-c))++v:=by
 unfold kCO kEO kFD digS oneB;rw [decide_eq_false (by omega),Bool.false_and,if_neg (by decide),beq_eq_false_iff_ne.2 (show c≠1 by omega),beq_eq_false_iff_ne.2 (show c≠ -1 by omega),Bool.or_false,Bool.and_false,if_neg (by decide)];obtain ⟨n,rfl⟩:∃ n:Nat,c= -(n:Int):=⟨c.natAbs,by omega⟩
 rw [← itoa_minus (by omega),Int.neg_neg];simp only [ByteArray.append_assoc]
theorem part_m1 {o v:Str} (hv:v.toList.isEmpty=false):kCO o (-1) v=(o++⟨#[45]⟩)++v:=by
 unfold kCO kEO kFD digS oneB;rw [decide_eq_false (by omega),Bool.false_and,if_neg (by decide),hv];rw [if_pos (by decide),cut_m1,ByteArray.append_assoc]
theorem part_pos {o v:Str} {c:Int} (hc:1<c):kCO o c v=(kEO o 1++kAR c)++v:=by
 unfold kCO digS oneB;rw [beq_eq_false_iff_ne.2 (show c≠1 by omega),beq_eq_false_iff_ne.2 (show c≠ -1 by omega),Bool.or_false,Bool.and_false,if_neg (by decide)];rw [show kEO o c=kEO o 1 from by unfold kEO kFD;rw [decide_eq_true (by omega),decide_eq_true (by decide)],ByteArray.append_assoc]
theorem part_1 {o v:Str} (hv:v.toList.isEmpty=false):kCO o 1 v=kEO o 1++v:=by
 unfold kCO digS oneB;rw [hv,if_pos (by decide),cut_1,kDR]
theorem plus_yes {o:Str} (h:o.toList.isEmpty=false):kEO o 1=o++⟨#[43]⟩:=by
 unfold kEO kFD;rw [h,if_pos (by decide)]
theorem plus_no {o:Str} (h:o.toList.isEmpty=true):kEO o 1=o:=by
 unfold kEO kFD;rw [h,if_neg (by decide)]
theorem kDG {s:Str} (h:0<s.size):s.toList.isEmpty=false:=by
 cases he:s.toList.isEmpty with
 | false=>rfl
 | true=>have:=kG3 he;omega
theorem partS_ge (o:Str) (c:Int) (v:Str):v.size≤(kCO o c v).size:=by
 unfold kCO;rw [ByteArray.size_append,ByteArray.size_append];omega
theorem sumS_pos {l:List Coef} (hn:∀ t ∈ l,kAT t.v=true) {k:Nat} (h0:0<k) (hk:k≤l.length):(sumS (l.take k)).toList.isEmpty=false:=by
 obtain ⟨k,rfl⟩:∃ j,k=j+1:=⟨k - 1,by omega⟩
 rw [kJI (by omega)];refine kDG (Nat.lt_of_lt_of_le ?_ (partS_ge _ _ _));have h1:=kGE (hn _ (kAJ (l:=l) (k:=k) (by omega)));rcases Nat.eq_zero_or_pos (l.getD k default).v.size with q | q
 · rw [ByteArray.toList_eq,show (l.getD k default).v.data.toList=[] from List.eq_nil_of_length_eq_zero (by rw [Array.length_toList];exact q)] at h1;cases h1
 · exact q
theorem kI7 {S:Blk} {x:Lin} {cs:List Value} {w:World} (h:RLin.rd S w cs x) (hz:szL x) :
 Calls Tryz.prog 62 #[.agg cs.toArray] w fun e w'=>e= .returned (.string (kAF x))∧Below w.heap.size w w':=by
 have HV:Hid (∀ W,Below w.heap.size w W→Calls Tryz.prog 52 #[.agg cs.toArray] W fun e w'=>e= .returned (.bool (kAC x))∧Below W.heap.size W w'):=hJ (fun W hW=>kD7 (RLin.below h hW) hz);obtain ⟨t,rfl,a,c,rfl,hs⟩:=h;have hm:=hs.small;have HLn:=hJ hs.len;have HS0:=hJ hs;clear hs hz;generalize hl1:x.terms.length=n at *;have HL:=hJ hl1;clear hl1;obtain ⟨B0,ya,hW0⟩:=box1 w 45 [.int .i64 x.const,.slice a n c];have xa0:=box0 ya 0 _ rfl;have xa1:=box0 ya 1 _ rfl;clear ya;have HC:=hJ (HV.out _ B0.out);cases hv:kAC x with
 | false =>
   have HF:Hid (kAF x=⟨#[]⟩):=hJ (by unfold kAF;rw [hv];rfl);rw [hv] at HC;go_enter func62,ntmps62
   go_wp2_with fail
   refine (HC.out).mono ?_;rintro e w1 ⟨rfl,hb⟩
   go_wp2_with fail
   go_ret;exact ⟨by rw [HF.out];rfl,B0.out.trans (hb.mono B0.out.size)⟩
 | true =>
   have HF:Hid (kAF x=endS (sumS x.terms) x.const):=hJ (by unfold kAF;rw [hv];rfl);have HVp:=hJ (kA8 hv);rw [hv] at HC;clear HV hv;go_enter func62,ntmps62
   go_wp2_with fail
   refine HC.out.mono ?_;rintro e w1 ⟨rfl,hb⟩;have HW1:Hid (Below w.heap.size w w1):=hJ (B0.out.trans (hb.mono B0.out.size));have HS:=hJ (HS0.out.below HW1.out);have g0:=kAE xa0 _ hb;have g1:=kAE xa1 _ hb;have hlw:w.heap.size<w1.heap.size:=kCJ g1;clear xa0 xa1 hb HC HS0 B0 hW0
   go_wp2_with fail
   go_loopw [3,4] (fun o i wr=>∃ k:Nat,k≤n∧i= .int .i64 k∧o= .string (sumS (x.terms.take k))∧Below w1.heap.size w1 wr) (fun _ i _=>n - (intOf i).toNat)
   case atStart=>exact ⟨0,Nat.zero_le _,rfl,rfl,Below.refl _ _⟩
   case round =>
    obtain ⟨k,hk,rfl,rfl,hB⟩:=hrel;have r0:=kAE g0 _ hB;have r1:=kAE g1 _ hB;have hwr:=hB.size;by_cases hlt:k<n
    · obtain ⟨b,off,rfl,hbW,_⟩:=HS.out.form k hlt
      obtain ⟨c0,c1⟩:=(HS.out.below hB).coef k hlt;have hkl:k<x.terms.length:=by rw [HL.out];exact hlt
      have HNx:=hJ (kJI (l:=x.terms) hkl);have hbd:=HVp.out.2.2.1 _ (kAJ hkl);have hcz:=HVp.out.2.1 _ (kAJ hkl);have hnz:=kCP (HVp.out.2.2.2.1 _ (kAJ hkl));have HVe:=hJ (kGE (HVp.out.2.2.2.1 _ (kAJ hkl)));have hsz:=kF1 HVp.out.2.2.1 HVp.out.2.2.2.1 k (by omega);have hl12:=HVp.out.2.2.2.2.2;have HPo:Hid (0<k→(sumS (x.terms.take k)).toList.isEmpty=false):=hJ (fun h0=>sumS_pos HVp.out.2.2.2.1 h0 (by omega));have HPz:Hid (k=0→(sumS (x.terms.take k)).toList.isEmpty=true):=hJ (fun h0=>by subst h0;rw [ByteArray.toList_eq];rfl);generalize x.terms.getD k default=y at *;generalize sumS (x.terms.take k)=o at *;have HT0:=hJ (Bx.fresh wr 77 [.string y.v,.int .i64 y.c]);have HA:Hid (Below wr.heap.size wr (wr.alloc (.cells #[.string y.v,.int .i64 y.c] 77))):=hJ ((Below.refl _ _).alloc (Nat.le_refl _) _);have hos:o.size≤1200:=by omega
      clear hkl hsz hl12;clear HT0;by_cases hneg:y.c<0
      · have hng:IntKind.i64.wrap (-y.c)= -y.c:=by rw [IntKind.wrap_i64];omega
        have hs0:(o++(⟨#[45]⟩:Str)).size≤1201:=by rw [ByteArray.size_append];show o.size+1≤_;omega
        by_cases h1:y.c< -1
        · have HP:=hJ (part_neg (o:=o) (v:=y.v) h1)
          have HI:=hJ (fun W=>kF8 (-y.c) (by omega) (by omega) W);clear HA;have HT:=hJ (Bx.fresh wr 77 [.string y.v,.int .i64 (-y.c)]);have HA:Hid (Below wr.heap.size wr (wr.alloc (.cells #[.string y.v,.int .i64 (-y.c)] 77))):=hJ ((Below.refl _ _).alloc (Nat.le_refl _) _);have hiz:=kDA (-y.c) (by omega) (by omega)
          go_wp2_with fail
          refine (HI.out _).mono ?_;rintro e w5 ⟨rfl,hb5⟩;have HT5:=hJ (HT.out.below hb5 HT.out.lt);have HB5:=hJ (HA.out.trans (hb5.mono HA.out.size));have y0:=HT5.out.cell 0 _ rfl;clear hb5 HT HA HT5 HI;generalize kAR (-y.c)=d at *;have hs1:((o++(⟨#[45]⟩:Str))++d).size≤1300:=by rw [ByteArray.size_append];omega
          go_wp2_with fail
          go_roundw
          case rel=>exact ⟨k+1,by omega,by go_num,by rw [HNx.out,HP.out],hB.trans (HB5.out.mono hwr)⟩
          case measure=>simp [intOf];omega
        · have hcm:y.c= -1:=by omega
          have HP:=hJ (part_m1 (o:=o) HVe.out);rw [← hcm] at HP;have h1n:¬ (1< -y.c):=by omega
          clear HA hcm;have HA:Hid (Below wr.heap.size wr (wr.alloc (.cells #[.string y.v,.int .i64 (-y.c)] 77))):=hJ ((Below.refl _ _).alloc (Nat.le_refl _) _)
          go_wp2_with fail
          go_roundw
          case rel=>exact ⟨k+1,by omega,by go_num,by rw [HNx.out,HP.out],hB.trans (HA.out.mono hwr)⟩
          case measure=>simp [intOf];omega
      · by_cases hk0:k=0
        · have HPl:=hJ (plus_no (HPz.out hk0))
          have hkz:¬ (0:Int)<(k:Int):=by omega
          clear hk0;by_cases h1:1<y.c
          · have hp:=part_pos (o:=o) (v:=y.v) h1
            rw [HPl.out] at hp;have HP:=hJ hp;have HI:=hJ (fun W=>kF8 y.c (by omega) (by omega) W);clear HA hp;have HT:=hJ (Bx.fresh wr 77 [.string y.v,.int .i64 (y.c)]);have HA:Hid (Below wr.heap.size wr (wr.alloc (.cells #[.string y.v,.int .i64 (y.c)] 77))):=hJ ((Below.refl _ _).alloc (Nat.le_refl _) _);have hiz:=kDA (y.c) (by omega) (by omega)
            go_wp2_with fail
            refine (HI.out _).mono ?_;rintro e w5 ⟨rfl,hb5⟩;have HT5:=hJ (HT.out.below hb5 HT.out.lt);have HB5:=hJ (HA.out.trans (hb5.mono HA.out.size));have y0:=HT5.out.cell 0 _ rfl;clear hb5 HT HA HT5 HI;generalize kAR (y.c)=d at *;have hs1:(o++d).size≤1300:=by rw [ByteArray.size_append];omega
            go_wp2_with fail
            go_roundw
            case rel=>exact ⟨k+1,by omega,by go_num,by rw [HNx.out,HP.out],hB.trans (HB5.out.mono hwr)⟩
            case measure=>simp [intOf];omega
          · have hcm:y.c=1:=by omega
            have hp:=part_1 (o:=o) HVe.out;rw [HPl.out,← hcm] at hp;have HP:=hJ hp;clear HA hp hcm;have HA:Hid (Below wr.heap.size wr (wr.alloc (.cells #[.string y.v,.int .i64 (y.c)] 77))):=hJ ((Below.refl _ _).alloc (Nat.le_refl _) _)
            go_wp2_with fail
            go_roundw
            case rel=>exact ⟨k+1,by omega,by go_num,by rw [HNx.out,HP.out],hB.trans (HA.out.mono hwr)⟩
            case measure=>simp [intOf];omega
        · have HPl:=hJ (plus_yes (HPo.out (by omega)))
          have hkz:(0:Int)<(k:Int):=by omega
          clear hk0;have hs0:(o++(⟨#[43]⟩:Str)).size≤1201:=by rw [ByteArray.size_append];show o.size+1≤_;omega
          by_cases h1:1<y.c
          · have hp:=part_pos (o:=o) (v:=y.v) h1
            rw [HPl.out] at hp;have HP:=hJ hp;have HI:=hJ (fun W=>kF8 y.c (by omega) (by omega) W);clear HA hp;have HT:=hJ (Bx.fresh wr 77 [.string y.v,.int .i64 (y.c)]);have HA:Hid (Below wr.heap.size wr (wr.alloc (.cells #[.string y.v,.int .i64 (y.c)] 77))):=hJ ((Below.refl _ _).alloc (Nat.le_refl _) _);have hiz:=kDA (y.c) (by omega) (by omega)
            go_wp2_with fail
            refine (HI.out _).mono ?_;rintro e w5 ⟨rfl,hb5⟩;have HT5:=hJ (HT.out.below hb5 HT.out.lt);have HB5:=hJ (HA.out.trans (hb5.mono HA.out.size));have y0:=HT5.out.cell 0 _ rfl;clear hb5 HT HA HT5 HI;generalize kAR (y.c)=d at *;have hs1:((o++(⟨#[43]⟩:Str))++d).size≤1300:=by rw [ByteArray.size_append];omega
            go_wp2_with fail
            go_roundw
            case rel=>exact ⟨k+1,by omega,by go_num,by rw [HNx.out,HP.out],hB.trans (HB5.out.mono hwr)⟩
            case measure=>simp [intOf];omega
          · have hcm:y.c=1:=by omega
            have hp:=part_1 (o:=o) HVe.out;rw [HPl.out,← hcm] at hp;have HP:=hJ hp;clear HA hp hcm;have HA:Hid (Below wr.heap.size wr (wr.alloc (.cells #[.string y.v,.int .i64 (y.c)] 77))):=hJ ((Below.refl _ _).alloc (Nat.le_refl _) _)
            go_wp2_with fail
            go_roundw
            case rel=>exact ⟨k+1,by omega,by go_num,by rw [HNx.out,HP.out],hB.trans (HA.out.mono hwr)⟩
            case measure=>simp [intOf];omega
    · obtain rfl:k=n:=by omega
      have HEnd:Hid (x.terms.take k=x.terms):=hJ (List.take_of_length_le (by rw [HL.out];exact Nat.le_refl _));have hcb:=HVp.out.2.2.2.2.1;rw [HEnd.out];by_cases h0:k=0
      · subst h0
        have hne:x.terms=[]:=List.eq_nil_of_length_eq_zero HL.out
        have HG:Hid (kAF x=kAR x.const):=hJ (by
         rw [HF.out,hne];unfold endS endB kCO kEO kFD digS oneB sumS;have e0:(⟨#[]⟩:Str).toList.isEmpty=true:=by rw [ByteArray.toList_eq];rfl
         simp only [List.foldl_nil,e0,Bool.or_true,if_true,Bool.not_true,Bool.and_false,Bool.false_and,Bool.false_eq_true,if_false];rw [kDR,kCZ])
        have HI:=hJ (fun W=>kF8 x.const (by omega) (by omega) W)
        go_wp2_with fail
        refine (HI.out _).mono ?_;rintro e w5 ⟨rfl,hb5⟩
        go_wp2_with fail
        go_ret;exact ⟨by rw [HG.out];rfl,HW1.out.trans ((hB.trans (hb5.mono hwr)).mono HW1.out.size)⟩
      · have hsz:=kF1 HVp.out.2.2.1 HVp.out.2.2.2.1 k (by rw [HL.out];exact Nat.le_refl _)
        have hl12:=HVp.out.2.2.2.2.2;have hks:(0:Int)<(k:Int):=by omega
        have hne:=sumS_pos HVp.out.2.2.2.1 (k:=k) (by omega) (by rw [HL.out];exact Nat.le_refl _);rw [HEnd.out] at hsz hne;have HG0:Hid (x.const=0→kAF x=sumS x.terms):=hJ (fun h=>by rw [HF.out];unfold endS endB;rw [h,hne];rfl)
        have HG1:Hid (0<x.const→kAF x=(sumS x.terms++⟨#[43]⟩)++kAR x.const):=hJ (fun h=>by
         rw [HF.out];unfold endS endB;rw [if_pos (by rw [bne_iff_ne.2 (show x.const≠0 by omega)];rfl)];unfold kCO kEO kFD digS oneB;have e0:(⟨#[]⟩:Str).toList.isEmpty=true:=by rw [ByteArray.toList_eq];rfl
         rw [hne,e0,decide_eq_true (by omega)];simp only [Bool.not_true,Bool.false_and,Bool.false_eq_true,if_false,Bool.not_false,Bool.and_true,if_true];rw [kCZ])
        have HG2:Hid (x.const<0→kAF x=sumS x.terms++kAR x.const):=hJ (fun h=>by
         rw [HF.out];unfold endS endB;rw [if_pos (by rw [bne_iff_ne.2 (show x.const≠0 by omega)];rfl)];unfold kCO kEO kFD digS oneB;have e0:(⟨#[]⟩:Str).toList.isEmpty=true:=by rw [ByteArray.toList_eq];rfl
         rw [hne,e0,decide_eq_false (by omega)];simp only [Bool.not_true,Bool.false_and,Bool.false_eq_true,if_false];rw [kCZ])
        have HI:=hJ (fun W=>kF8 x.const (by omega) (by omega) W);have hiz:=kDA x.const (by omega) (by omega);have hos:(sumS x.terms).size≤1200:=by rw [HL.out] at hl12;omega
        have hs0:(sumS x.terms++(⟨#[43]⟩:Str)).size≤1201:=by rw [ByteArray.size_append];show _+1≤_;omega
        clear hsz hne hl12;generalize sumS x.terms=o at *;generalize kAR x.const=d at *;by_cases hc0:x.const=0
        · have hq:((x.const:Int)==0)=true:=beq_iff_eq.2 hc0
          have HG:=hJ (HG0.out hc0);clear HG0 HG1 HG2
          go_wp2_with fail
          go_ret;exact ⟨by rw [HG.out];rfl,HW1.out.trans (hB.mono HW1.out.size)⟩
        · by_cases hcp:0<x.const
          · have HG:=hJ (HG1.out hcp)
            clear HG0 HG1 HG2
            go_wp2_with fail
            refine (HI.out _).mono ?_;rintro e w5 ⟨rfl,hb5⟩
            go_wp2_with fail
            go_ret;exact ⟨by rw [HG.out];rfl,HW1.out.trans ((hB.trans (hb5.mono hwr)).mono HW1.out.size)⟩
          · have HG:=hJ (HG2.out (by omega))
            clear HG0 HG1 HG2
            go_wp2_with fail
            refine (HI.out _).mono ?_;rintro e w5 ⟨rfl,hb5⟩
            go_wp2_with fail
            go_ret;exact ⟨by rw [HG.out];rfl,HW1.out.trans ((hB.trans (hb5.mono hwr)).mono HW1.out.size)⟩
theorem kBL {a b:Str} {k:Nat} (h:k<a.size):bt (a++b) k=bt a k:=by
 obtain ⟨c,h1,h2⟩:=at_bt a k h;rw [h2];refine kKJ _ k c ?_;rw [ByteArray.data_append,Array.toList_append,List.getElem?_append_left (by rw [Array.length_toList];exact h)];exact h1
theorem kC1 {a b:Str} {k:Nat} (h:k<b.size):bt (a++b) (a.size+k)=bt b k:=by
 obtain ⟨c,h1,h2⟩:=at_bt b k h;rw [h2];refine kKJ _ _ c ?_;have e:a.data.toList.length=a.size:=by rw [Array.length_toList];rfl
 rw [ByteArray.data_append,Array.toList_append,List.getElem?_append_right (by omega),e,Nat.add_sub_cancel_left];exact h1
theorem kDC {a b c:Str} {k:Nat} (h:k<b.size):bt (a++(b++c)) (a.size+k)=bt b k:=by
 rw [kC1 (by rw [ByteArray.size_append];omega),kBL h]
theorem kD6 {a b c:Str}:(a++(b++c)).extract a.size (a.size+b.size)=b:=by
 apply ByteArray.ext;apply Array.toList_inj.1;have e:a.data.toList.length=a.size:=by rw [Array.length_toList];rfl
 have e2:b.data.toList.length=b.size:=by rw [Array.length_toList];rfl
 rw [ByteArray.data_extract,Array.toList_extract,ByteArray.data_append,ByteArray.data_append,Array.toList_append,Array.toList_append,List.extract_eq_take_drop,← e,List.drop_left];rw [Nat.add_sub_cancel_left,← e2,List.take_left]
theorem kC0 {a b c:Str}:(a++(b++c)).size=a.size+b.size+c.size:=by rw [ByteArray.size_append,ByteArray.size_append];omega
theorem dec_fold:∀ (d n:Nat),n≤d→((Lib.decDigits n).map fun c=>(c.toNat:Int)).foldl (fun (m c:Int)=>10 * m+(c - 48)) (0:Int)=(n:Int):=by
 intro d
 induction d with
 | zero =>
   intro n hn;obtain rfl:n=0:=by omega
   rw [Lib.decDigits_one (by decide)];rfl
 | succ d ih =>
   intro n hn;by_cases h:n<10
   · rw [Lib.decDigits_one h]
     have:n=0∨n=1∨n=2∨n=3∨n=4∨n=5∨n=6∨n=7∨n=8∨n=9:=by omega
     rcases this with rfl | rfl | rfl | rfl | rfl | rfl | rfl | rfl | rfl | rfl <;> rfl
   · rw [show Lib.decDigits n=Lib.decDigits (n / 10)++[UInt8.ofNat (48+n % 10)] from by rw [Lib.decDigits,dif_neg h],List.map_append,List.foldl_append,ih (n / 10) (by omega)]
     have:n % 10=0∨n % 10=1∨n % 10=2∨n % 10=3∨n % 10=4∨n % 10=5∨n % 10=6∨n % 10=7∨n % 10=8∨n % 10=9:=by omega
     have hv:((UInt8.ofNat (48+n % 10)).toNat:Int)=48+(n % 10:Nat):=by
      rcases this with h | h | h | h | h | h | h | h | h | h <;> rw [h] <;> rfl
     simp only [List.map_cons,List.map_nil,List.foldl_cons,List.foldl_nil];rw [hv];omega
theorem kHV (n:Nat):kAR (n:Int)=⟨(Lib.decDigits n).toArray⟩:=by unfold kAR;rw [Lib.itoa_nonneg]
theorem kKA (n:Nat):decV (kAR (n:Int))=n:=by
 rw [kHV];unfold decV decK;rw [List.take_of_length_le (by rw [nb_length];exact Nat.le_refl _)];exact dec_fold n n (Nat.le_refl _)
theorem nDigits_le:∀ (k n:Nat),n<10 ^ (k+1)→Lib.nDigits n≤k+1
 | 0,n,h=>by rw [Lib.nDigits_small (by simpa using h)];exact Nat.le_refl _
 | k+1,n,h=>by
   by_cases h2:n<10
   · rw [Lib.nDigits_small h2];omega
   · rw [Lib.nDigits_big h2]
     have:=nDigits_le k (n / 10) (by rw [Nat.pow_succ] at h ⊢;rw [Nat.pow_succ] at h;omega);omega
theorem kG1 {n:Nat} (h:n<10000000):1≤(kAR (n:Int)).size∧(kAR (n:Int)).size≤7:=by
 rw [kHV]
 show 1≤(Lib.decDigits n).toArray.size∧(Lib.decDigits n).toArray.size≤7
 rw [List.size_toArray,Lib.decDigits_length];exact ⟨Lib.nDigits_pos n,nDigits_le 6 n h⟩
theorem kC4 (n:Nat):∀ i,i<(kAR (n:Int)).size→kAP (bt (kAR (n:Int)) i)=true:=fun i hi=>by
 obtain ⟨c,h1,h2⟩:=at_bt _ i hi;rw [h2];rw [kHV] at h1;have:=dec_digit n c (List.mem_of_getElem? h1);exact decide_eq_true (by omega)
theorem itoa_head {n:Nat} (h:10≤n):bt (kAR (n:Int)) 0≠48:=by
 obtain ⟨c,r,h1,h2⟩:=dec_head n (by omega);rw [kHV];rw [kKJ _ 0 c (by show (Lib.decDigits n).toArray.toList[0]? =_;rw [h1];rfl)];omega
theorem itoa_small {n:Nat} (h:n<10):(kAR (n:Int)).size=1:=by
 rw [kHV,Lib.decDigits_one h];rfl
theorem kIE {n:Nat} (h:n<10000000):longB (kAR (n:Int))=false∧kGC (kAR (n:Int))=true:=by
 obtain ⟨h1,h7⟩:=kG1 h;refine ⟨?_,?_⟩
 · unfold longB
   rw [decide_eq_false (show ¬ 7<(kAR (n:Int)).size by omega)];by_cases h10:n<10
   · rw [decide_eq_false (show ¬ 1<(kAR (n:Int)).size by rw [itoa_small h10];decide)];rfl
   · rw [beq_eq_false_iff_ne.2 (itoa_head (n:=n) (by omega)),Bool.and_false];rfl
 · unfold kGC
   rw [decide_eq_true (show 1≤(kAR (n:Int)).size∧(kAR (n:Int)).size≤7 from ⟨h1,h7⟩)];by_cases h10:n<10
   · rw [decide_eq_true (show (kAR (n:Int)).size=1 from itoa_small h10),Bool.or_true];rfl
   · rw [bne_iff_ne.2 (itoa_head (n:=n) (by omega))];rfl
theorem kIC {v:Str} (h:kAT v=true):0<v.size∧(kAW (bt v 0)=true∨bt v 0=95)∧∀ i,i<v.size→(kAP (bt v i)=true∨kAW (bt v i)=true∨(bt v i=95∧i=0)):=by
 unfold kAT at h
 split at h
 · rename_i h95
   rw [Bool.and_eq_true] at h;have h1:=of_decide_eq_true h.1;refine ⟨by omega,.inr h95,fun i hi=>?_⟩;have h2:=List.all_eq_true.1 h.2 i (List.mem_range.2 hi);rw [Bool.or_eq_true,beq_iff_eq] at h2;rcases h2 with h2 | h2
   · exact .inr (.inr ⟨by rw [h2];exact h95,h2⟩)
   · exact .inl h2
 · rw [Bool.and_eq_true] at h
   have h1:=of_decide_eq_true h.1;have hall:∀ i,i<v.size→(kAW (bt v i) || (i != 0 && kAP (bt v i)))=true:=fun i hi=>List.all_eq_true.1 h.2 i (List.mem_range.2 hi)
   refine ⟨by omega,?_,fun i hi=>?_⟩
   · have:=hall 0 (by omega)
     simp at this;exact .inl this
   · have:=hall i hi
     rw [Bool.or_eq_true,Bool.and_eq_true] at this;rcases this with h2 | h2
     · exact .inr (.inl h2)
     · exact .inl h2.2
theorem kBV {c:Int} (h:c=43∨c=45):kAP c=false∧kAW c=false∧(c==95)=false∧(c==32)=false∧(c==42)=false:=by
 rcases h with rfl | rfl <;> decide
theorem letter_not {c:Int} (h:kAW c=true∨c=95):kAP c=false∧(c==32)=false∧(c==42)=false∧kB4 c=true∧(kAW c || c==95)=true:=by
 rcases h with h | rfl
 · have:=of_decide_eq_true h
   refine ⟨decide_eq_false (by omega),beq_eq_false_iff_ne.2 (by omega),beq_eq_false_iff_ne.2 (by omega),?_,?_⟩
   · unfold kB4;rw [h];rfl
   · rw [h];rfl
 · decide
def numS (n:Nat) (v:Str):Str:=if v.toList.isEmpty=false∧n=1 then ⟨#[]⟩ else kAR (n:Int)
def kA7 (n:Nat) (v:Str):Str:=numS n v++v
structure PartOk (n:Nat) (v:Str):Prop where
 hi:n<10000000
 name:v.toList.isEmpty=false→kAT v=true∧0<n
def ItemLaw (it:Str→Nat→Int × Str × Bool × Nat):Prop :=
 ∀ (pre rest:Str) (n:Nat) (v:Str),PartOk n v→(rest.size=0∨(0<rest.size∧(bt rest 0=43∨bt rest 0=45))) →
  it (pre++(kA7 n v++rest)) pre.size=((n:Int),v,true,pre.size+(kA7 n v).size)
theorem kD8 {v:Str} (h:v.toList.isEmpty=true):v=⟨#[]⟩:=by
 have:=kG3 h;exact ByteArray.ext (Array.eq_empty_of_size_eq_zero this)
theorem kHK {P:Nat→Bool} {a b c:Str} (h:∀ i,i<b.size→P (a.size+i)=true) (he:0<c.size→P (a.size+b.size)=false):kB6 P (a++(b++c)).size a.size=a.size+b.size:=by
 refine kH6 b.size _ _ rfl (by rw [kC0];omega) (fun j h1 h2=>?_) (fun hl=>he (by rw [kC0] at hl;omega));have:=h (j - a.size) (by omega)
 rwa [show a.size+(j - a.size)=j by omega] at this
theorem kCS {a b c:Str} (h:0<c.size):bt (a++(b++c)) (a.size+b.size)=bt c 0:=by
 rw [← ByteArray.append_assoc,← ByteArray.size_append];have:=kC1 (a:=a++b) (b:=c) (k:=0) h
 rwa [Nat.add_zero] at this
theorem itemR_law:ItemLaw kCD:=by
 intro pre rest n v hp hr;have hq:=hp.hi;cases hv:v.toList.isEmpty with
 | true =>
   obtain rfl:=kD8 hv;have hb:kA7 n ⟨#[]⟩=kAR (n:Int):=by unfold kA7 numS;rw [if_neg (by rw [hv];simp),kCZ]
   rw [hb]
   have hrun:runR false (pre++(kAR (n:Int)++rest)) pre.size=pre.size+(kAR (n:Int)).size:=by
    refine kHK (fun i hi=>?_) (fun h=>?_)
    · unfold runP;rw [kDC hi,kC4 n i hi];rfl
    · unfold runP
      rw [kCS h];rcases hr with hr | ⟨_,hr⟩
      · omega
      · rw [(kBV hr).1];rfl
   unfold kCD;rw [hrun,kD6,(kIE hq).1];rw [if_neg (by decide),if_neg (by rw [kDG (kG1 hq).1];decide),kKA];unfold itemN
   have hstop:pre.size+(kAR (n:Int)).size=(pre++(kAR (n:Int)++rest)).size∨(0<rest.size∧(bt rest 0=43∨bt rest 0=45)):=by
    rcases hr with hr | hr
    · left;rw [kC0];omega
    · exact .inr hr
   have hw:kHF (pre++(kAR (n:Int)++rest)) (pre.size+(kAR (n:Int)).size)=false:=by
    unfold kHF;rcases hstop with h | ⟨h,h2⟩
    · rw [decide_eq_false (by omega)];rfl
    · rw [kCS h,(kBV h2).2.1,(kBV h2).2.2.1,Bool.or_false,Bool.and_false]
   have hbl:blk (pre++(kAR (n:Int)++rest)) (pre.size+(kAR (n:Int)).size)=pre.size+(kAR (n:Int)).size:=by
    rcases hstop with h | ⟨h,h2⟩
    · exact kBX (by omega)
    · exact kB5 (by rw [kCS h];exact (kBV h2).2.2.2.1)
   have hs:isAt (pre++(kAR (n:Int)++rest)) (pre.size+(kAR (n:Int)).size) 42=false:=by
    unfold isAt;rcases hstop with h | ⟨h,h2⟩
    · rw [decide_eq_false (by omega)];rfl
    · rw [kCS h,(kBV h2).2.2.2.2,Bool.and_false]
   rw [hw,hbl,hs];rfl
 | false =>
   obtain ⟨hn,hpos⟩:=hp.name hv;obtain ⟨v0,vh,va⟩:=kIC hn;have hvl:=letter_not vh
   have hrest:0<rest.size→(bt rest 0=43∨bt rest 0=45):=fun h=>by
    rcases hr with q | q
    · omega
    · exact q.2
   by_cases h1:n=1
   · subst h1
     have hb:kA7 1 v=v:=by unfold kA7 numS;rw [if_pos ⟨hv,rfl⟩,kDR]
     rw [hb]
     have hrun0:runR false (pre++(v++rest)) pre.size=pre.size:=kB5 (by
      unfold runP;have:=kDC (a:=pre) (b:=v) (c:=rest) v0;rw [Nat.add_zero] at this;rw [this,hvl.1];rfl)
     have hrun:runR true (pre++(v++rest)) pre.size=pre.size+v.size:=by
      refine kHK (fun i hi=>?_) (fun h=>?_)
      · unfold runP
        rw [kDC hi];rcases va i hi with q | q | ⟨q,q2⟩
        · rw [q];rfl
        · rw [q];simp
        · rw [q,q2];simp
      · unfold runP
        rw [kCS h,(kBV (hrest h)).1,(kBV (hrest h)).2.1,(kBV (hrest h)).2.2.1];rfl
     unfold kCD;rw [hrun0]
     have he:(pre++(v++rest)).extract pre.size pre.size=⟨#[]⟩:=by
      apply kD8;rw [ByteArray.toList_eq,show ((pre++(v++rest)).extract pre.size pre.size).data.toList=[] from List.eq_nil_of_length_eq_zero (by rw [Array.length_toList];show ((pre++(v++rest)).extract pre.size pre.size).size=0;rw [ByteArray.size_extract];omega)];rfl
     rw [he,if_neg (by decide),if_pos (by rw [ByteArray.toList_eq];rfl)];unfold kFW;rw [hrun,kD6,hn];rfl
   · have hb:kA7 n v=kAR (n:Int)++v:=by unfold kA7 numS;rw [if_neg (fun q=>h1 q.2)]
     rw [hb];have hsp:pre++(kAR (n:Int)++v++rest)=pre++(kAR (n:Int)++(v++rest)):=by rw [ByteArray.append_assoc]
     have hsq:pre++(kAR (n:Int)++(v++rest))=(pre++kAR (n:Int))++(v++rest):=by rw [ByteArray.append_assoc]
     rw [hsp];have hvr:0<(v++rest).size:=by rw [ByteArray.size_append];omega
     have hbv:bt (v++rest) 0=bt v 0:=kBL v0
     have hrun:runR false (pre++(kAR (n:Int)++(v++rest))) pre.size=pre.size+(kAR (n:Int)).size:=by
      refine kHK (fun i hi=>?_) (fun h=>?_)
      · unfold runP;rw [kDC hi,kC4 n i hi];rfl
      · unfold runP
        rw [kCS h,hbv,hvl.1];rfl
     unfold kCD;rw [hrun,kD6,(kIE hq).1];rw [if_neg (by decide),if_neg (by rw [kDG (kG1 hq).1];decide),kKA];unfold itemN
     have hw:kHF (pre++(kAR (n:Int)++(v++rest))) (pre.size+(kAR (n:Int)).size)=true:=by
      unfold kHF;rw [kCS hvr,hbv,hvl.2.2.2.2,decide_eq_true (by rw [kC0];omega)];rfl
     rw [if_pos hw];unfold kFW;rw [hsq,← ByteArray.size_append]
     have hrun2:runR true ((pre++kAR (n:Int))++(v++rest)) (pre++kAR (n:Int)).size=(pre++kAR (n:Int)).size+v.size:=by
      refine kHK (fun i hi=>?_) (fun h=>?_)
      · unfold runP
        rw [kDC hi];rcases va i hi with q | q | ⟨q,q2⟩
        · rw [q];rfl
        · rw [q];simp
        · rw [q,q2];simp
      · unfold runP
        rw [kCS h,(kBV (hrest h)).1,(kBV (hrest h)).2.1,(kBV (hrest h)).2.2.1];rfl
     rw [hrun2,kD6,hn]
     congr 3
     rw [ByteArray.size_append,ByteArray.size_append];omega
theorem nameP_ok {s:Str} {n:Int} {k k0:Nat} (hkk:k0≤k) (hk:k≤s.size) (h0:0≤n) (h1:n<10000000) (h:(nameP n s k).2.2.1=true):ItemOk s k0 (nameP n s k):=⟨h0,h1,fun _=>h,kCE hk,Nat.le_trans hkk (kB1 _ _ _)⟩
theorem itemP_ok {s:Str} {k:Nat} (hk:k≤s.size) (h:(kBW s k).2.2.1=true):ItemOk s k (kBW s k):=by
 have hke:k≤runD s k:=kB1 _ _ _;have hes:runD s k≤s.size:=kCE hk;have hdg:=kI4 hk;unfold kBW at h ⊢;by_cases hz:s.size≤k
 · rw [if_pos hz] at h;cases h
 · rw [if_neg hz] at h ⊢
   by_cases hd:kAP (bt s k)=true
   · rw [if_pos hd] at h ⊢
     by_cases hn:kGC (s.extract k (runD s k))=true
     · rw [if_pos hn] at h ⊢
       have hb:0≤decV (s.extract k (runD s k))∧decV (s.extract k (runD s k))<10000000:=by
        unfold kGC at hn;rw [Bool.and_eq_true] at hn;exact decK_lt hdg (of_decide_eq_true hn.1).2 (Nat.le_refl _)
       unfold itemQ at h ⊢
       split at h
       · rename_i ha
         rw [if_pos ha];have h2:=kFS (kCR ha);exact nameP_ok (Nat.le_trans hke (Nat.le_trans (kB1 _ _ _) (Nat.le_trans (Nat.le_succ _) (kB1 _ _ _)))) h2 hb.1 hb.2 h
       · rename_i ha
         rw [if_neg ha]
         split at h
         · rename_i hq
           rw [if_pos hq];exact ⟨hb.1,hb.2,fun q=>absurd q (by show ¬ (⟨#[]⟩:Str).toList.isEmpty=false;rw [ByteArray.toList_eq];decide),hes,hke⟩
         · rename_i hq
           rw [if_neg hq];exact nameP_ok hke hes hb.1 hb.2 h
     · rw [if_neg hn] at h;cases h
   · rw [if_neg hd] at h ⊢
     exact nameP_ok (Nat.le_refl _) hk (by decide) (by decide) h
theorem isAt_not {s:Str} {k:Nat} (h:isAt s k 43=true):isAt s k 45=false:=by
 unfold isAt at *;rw [Bool.and_eq_true] at h;have h2:=beq_iff_eq.1 h.2;rw [h2];exact Bool.and_false _
theorem start_sign (s:Str):kJN s=kGQ s (blk s 0)∧kJM s=kI3 s (blk s 0):=by
 unfold kJN kJM kGQ kI3;cases h:isAt s (blk s 0) 43 with
 | true =>
   rw [isAt_not h];refine ⟨?_,by simp⟩;unfold isTo;rw [h];rfl
 | false =>
   cases h2:isAt s (blk s 0) 45 with
   | true=>refine ⟨?_,by simp⟩;unfold isTo;rw [h2];first | done | rfl
   | false=>refine ⟨?_,by simp⟩;unfold isTo;rw [h,h2];first | done | rfl
structure QSt (s:Str) (k n:Nat) (x:Lin) (w W:World):Prop where
 st:RSt s k (w.heap.size+1+1) (w.heap.size+1) n x W
 res:Bx W w.heap.size 45 [.int .i64 0,.slice none 0 0]
 below:Below w.heap.size w W
 le:k≤s.size
theorem QSt.step {s:Str} {k k' n:Nat} {x:Lin} {w W W':World} (h:QSt s k n x w W) (hx:kEY s k' (w.heap.size+1+1) x.const (w.heap.size+1) W') (hk:Kb (w.heap.size+1+1) W W') (hl:k'≤s.size):QSt s k' n x w W' :=
 ⟨h.st.step hx hk,h.res.kb hk (by omega),h.below.trans (hk.below (by omega) h.below.size),hl⟩
theorem QSt.k2 {s:Str} {k n:Nat} {x:Lin} {w W W':World} (h:QSt s k n x w W) (hk:K2 (w.heap.size+1+1) (w.heap.size+1) W W'):Bx W' w.heap.size 45 [.int .i64 0,.slice none 0 0]∧Below w.heap.size w W' :=
 ⟨hk.bx h.res (by omega) (by omega),h.below.trans (hk.below (by omega) (by omega) h.below.size)⟩
theorem linear_Parse (s:Str) (hs:s.size≤900) (w:World) (E:Env w) :
 Calls Tryz.prog 67 #[.string s] w fun e w'=>(∃ ds,e= .returned (.tuple #[.agg ds.toArray,.int .i64 (kEU (kA5 (kBW s) s))])∧RLin.rd (fun k=>w.heap.size≤k) w' ds (kET (kA5 (kBW s) s)))∧Below w.heap.size w w':=by
 have HP0:kJ0 (kBW s) s (s.size+1) (kGQ s (blk s 0)) (kI3 s (blk s 0)) ⟨0,[]⟩=kA5 (kBW s) s:=by rw [← (start_sign s).1,← (start_sign s).2];rfl
 have HP:=hJ HP0;have HIt:Hid (∀ k,k≤s.size→(kBW s k).2.2.1=true→ItemOk s k (kBW s k)):=hJ (fun k hk h=>itemP_ok hk h);have HE:=hJ E;have h8:8≤w.heap.size:=E.big;clear HP0 E;generalize kA5 (kBW s) s=res at *;have HSe:∀ k,(s.extract k s.size).size=s.size - k:=fun k=>kBN s (Nat.le_refl _)
 have HSe:=hJ HSe
 have HQ0:Hid (QSt s 0 0 ⟨0,[]⟩ w (((w.alloc (.cells #[.int .i64 0,.slice none 0 0] 45)).alloc (.map #[] 0)).alloc (.cells #[.string s,.int .i64 0,.map (some (w.heap.size+1))] 148))):=hJ (by
  have h1:=Bx.fresh w 45 [.int .i64 0,.slice none 0 0];have e1:(w.alloc (.cells #[.int .i64 0,.slice none 0 0] 45)).heap.size=w.heap.size+1:=by simp
  have h2:=MapF.made (w.alloc (.cells #[.int .i64 0,.slice none 0 0] 45));rw [e1] at h2;have e2:((w.alloc (.cells #[.int .i64 0,.slice none 0 0] 45)).alloc (.map #[] 0)).heap.size=w.heap.size+1+1:=by simp
  have h3:=Bx.fresh ((w.alloc (.cells #[.int .i64 0,.slice none 0 0] 45)).alloc (.map #[] 0)) 148 [.string s,.int .i64 0,.map (some (w.heap.size+1))];rw [e2] at h3;refine ⟨⟨by unfold kEY;rw [show s.extract 0 s.size=s from ByteArray.extract_zero_size];exact h3,⟨_,h2.kept ((Below.refl _ _).alloc (Nat.le_refl _) _)⟩,by omega⟩,(h1.alloc _).alloc _,(((Below.refl _ _).alloc (Nat.le_refl _) _).alloc (by omega) _).alloc (by omega) _,Nat.zero_le _⟩)
 have hmm:= @run_makeMap Tryz.prog;go_enter func67,ntmps67
 go_wp2_with fail
 clear hmm;generalize (((w.alloc (.cells #[.int .i64 0,.slice none 0 0] 45)).alloc (.map #[] 0)).alloc (.cells #[.string s,.int .i64 0,.map (some (w.heap.size+1))] 148))=W at *;refine (kH7 s 0 _ _ _ _ HQ0.out.st.rd).mono ?_;rintro e w1 ⟨rfl,hx,hk⟩;have hb0:blk s 0≤s.size:=kFS (Nat.zero_le _);have HQ1:=hJ (HQ0.out.step hx hk hb0);clear hx hk HQ0;generalize blk s 0=b0 at *
 go_wp2_with fail
 refine (rdr_sign s (by omega) b0 _ _ _ _ HQ1.out.st.rd hb0).mono ?_;rintro e w2 ⟨rfl,hx,hk⟩
 have hk2:kGQ s b0≤s.size:=by
  unfold kGQ isTo
  split
  · rename_i q;exact kCR q
  · split
    · rename_i q;exact kCR q
    · exact hb0
 have hsv:kI3 s b0=1∨kI3 s b0= -1:=by unfold kI3;split <;> (try split) <;> simp
 have HQ2:=hJ (HQ1.out.step hx hk hk2);clear hx hk HQ1;generalize kGQ s b0=k0 at *;generalize kI3 s b0=s0 at *
 go_wp2_with fail
 go_loopg [6] (s.size+1) (fun g sv wr=>∃ (k m n:Nat) (sg:Int) (x:Lin),sv= .int .i64 sg∧(sg=1∨sg= -1)∧m≤k∧n≤m∧s.size<k+g∧Hid (AccOk m x)∧Hid (QSt s k n x w wr)∧Hid (kJ0 (kBW s) s g k sg x=res))
 case atStart=>exact ⟨k0,0,0,_,_,rfl,hsv,Nat.zero_le _,Nat.le_refl _,by omega,hJ (AccOk.zero 0),HQ2,HP⟩
 case round =>
  clear HQ2 HP hsv;obtain ⟨k,m,n,sg,x,rfl,hsg,hmk,hnm,hkg,HA,HS,HLp⟩:=hrel;have hk:=HS.out.le;obtain ⟨g,rfl⟩:∃ g,gk=g+1:=⟨gk - 1,by omega⟩
  go_wp2_with fail
  refine (kH7 s k _ _ _ _ HS.out.st.rd).mono ?_;rintro e w3 ⟨rfl,hx,hk3⟩;have hb0:blk s k≤s.size:=kFS hk;have hkb:k≤blk s k:=kB1 _ _ _;have HS3:=hJ (HS.out.step hx hk3 hb0);have hu:=HLp.out;rw [kJ0] at hu;clear hx hk3 HS HLp;generalize blk s k=b0 at *
  go_wp2_with fail
  refine (rdr_item s (by omega) b0 _ _ n m x _ HS3.out.st hb0 sg hsg (HE.out.keep HS3.out.below h8) (by omega) (by omega) HA.out (by omega) (by omega)).mono ?_;rintro e w4 ⟨rfl,hk4,hst⟩;have HI:=hJ (HIt.out b0 hb0);obtain ⟨hres4,hbl4⟩:=HS3.out.k2 hk4;generalize kBW s b0=r at *;obtain ⟨r1,r2,r3,r4⟩:=r;cases r3 with
  | false =>
    dsimp only at hu hst;rw [if_neg (by decide)] at hu;have HF:=hJ hu;have HRs:=hJ hres4;have HBl:=hJ hbl4;clear hu hst hk4 HI HS3 hres4 hbl4;have z0:=HRs.out.cell 0 _ rfl;have z1:=HRs.out.cell 1 _ rfl;have f0:=HRs.out.fz 0;have f1:=HRs.out.fz 1;have hl0:=HRs.out.lt;have HZz:=hJ ((HRs.out.set 0 (.int .i64 0)).set 1 (.slice none 0 0));have s0:=HZz.out.cell 0 _ rfl;have s1:=HZz.out.cell 1 _ rfl
    go_wp2_with fail
    refine bodyPost_ret (v:=.tuple #[.agg #[.int .i64 0,.slice none 0 0],.int .i64 6]) (by simp [results,results67,go_sem,s0,s1,hl0]) rfl ?_;exact ⟨⟨_,by rw [← HF.out];rfl,by rw [← HF.out];exact RLin.zero _ _⟩,(HBl.out.setCell (Nat.le_refl _) _).setCell (Nat.le_refl _) _⟩
  | true =>
    have HIo:=hJ (HI.out rfl);rw [if_pos rfl] at hu;obtain ⟨n',hn',hst4⟩:=hst rfl;have hbr:=HIo.out.ge;have HS5:Hid (QSt s r4 n' (kEX x (sg * r1) r2) w w4):=hJ ⟨hst4,hres4,hbl4,HIo.out.le⟩;have HA2:=hJ (HA.out.next HIo.out hsg);have HL2:=hJ hu;dsimp only at hbr HA2 HL2;clear hu hst hst4 hk4 HI HS3 hres4 hbl4 HA HIo;generalize kEX x (sg * r1) r2=acc at *
    go_wp2_with fail
    refine (kH7 s r4 _ _ _ _ HS5.out.st.rd).mono ?_;rintro e w6 ⟨rfl,hx,hk6⟩;have hb6:blk s r4≤s.size:=kFS HS5.out.le;have hrb:r4≤blk s r4:=kB1 _ _ _;have HS6:=hJ (HS5.out.step hx hk6 hb6);clear hx hk6 HS5;generalize blk s r4=b6 at *;have y0:=HS6.out.st.rd.cell 0 _ rfl;have hsz:=HSe.out b6;by_cases hend:b6=s.size
    · have hem:(s.extract b6 s.size).toList.isEmpty=true:=by rw [ByteArray.toList_eq,show (s.extract b6 s.size).data.toList=[] from List.eq_nil_of_length_eq_zero (by rw [Array.length_toList];show (s.extract b6 s.size).size=0;omega)];rfl
      have hf:=HL2.out;rw [if_pos hend] at hf;have HF:=hJ hf;have hszl:szL acc:=fun t ht=>Nat.le_trans (kCP (HA2.out.names t ht)) (by decide)
      obtain ⟨D6,hM6⟩:=HS6.out.st.mp;have HC:=hJ (kJH (w.heap.size+1+1) 1 (w.heap.size+1) n' D6 acc HA2.out.srt HA2.out.nz hszl HS6.out.st.rd rfl rfl hM6 (by omega) (HE.out.keep HS6.out.below h8));clear hf HL2 hM6 hszl;generalize s.extract b6 s.size=rs at *
      go_wp2_with fail
      refine HC.out.mono ?_;rintro e w8 ⟨⟨ds,rfl,hr⟩,hb8⟩;have HRs:=hJ (HS6.out.res.below hb8 HS6.out.res.lt);have HBl:=hJ (HS6.out.below.trans (hb8.mono HS6.out.below.size));have hlt6:=HS6.out.st.rd.lt;have HFx:Hid (kEU (some acc)=limE acc∧kET (some acc)=limL acc):=hJ ⟨rfl,rfl⟩;clear hb8 HS6 HC y0;generalize limL acc=lx at *;generalize limE acc=le at *;obtain ⟨t8,rfl,a8,c8,rfl,hs8⟩:=hr;have HSl8:=hJ hs8;clear hs8;have z0:=HRs.out.cell 0 _ rfl;have z1:=HRs.out.cell 1 _ rfl;have f0:=HRs.out.fz 0;have f1:=HRs.out.fz 1;have hl0:=HRs.out.lt;have HZz:=hJ ((HRs.out.set 0 (.int .i64 lx.const)).set 1 (.slice a8 lx.terms.length c8));have s0:=HZz.out.cell 0 _ rfl;have s1:=HZz.out.cell 1 _ rfl
      go_wp2_with fail
      refine bodyPost_ret (v:=.tuple #[.agg #[.int .i64 lx.const,.slice a8 lx.terms.length c8],.int .i64 le]) (by simp [results,results67,go_sem,s0,s1,hl0]) rfl ?_
      have hrd:RLin.rd (fun k=>w.heap.size≤k) ((w8.setCell ⟨w.heap.size,0,none⟩ (.int .i64 lx.const)).setCell ⟨w.heap.size,1,none⟩ (.slice a8 lx.terms.length c8)) [.int .i64 lx.const,.slice a8 lx.terms.length c8] lx:=⟨_,rfl,a8,c8,rfl,(HSl8.out.frame fun q hq _=>by
       have:w6.heap.size≤q:=hq;rw [kAB (by show w.heap.size≠q;omega),kAB (by show w.heap.size≠q;omega)]).mono (fun q hq _=>by have:w6.heap.size≤q:=hq;omega)⟩
      exact ⟨⟨_,by rw [← HF.out,HFx.out.1],by rw [← HF.out,HFx.out.2];exact hrd⟩,(HBl.out.setCell (Nat.le_refl _) _).setCell (Nat.le_refl _) _⟩
    · have hem:(s.extract b6 s.size).toList.isEmpty=false:=by
       cases he:(s.extract b6 s.size).toList.isEmpty with
       | false=>rfl
       | true=>have:=kG3 he;omega
      have hf:=HL2.out;rw [if_neg hend] at hf;generalize s.extract b6 s.size=rs at *
      go_wp2_with fail
      clear y0;refine (rdr_sign s (by omega) b6 _ _ _ _ HS6.out.st.rd hb6).mono ?_;rintro e w8 ⟨rfl,hx,hk8⟩;cases h43:isAt s b6 43 with
      | true =>
        have h45:=isAt_not h43;have e1:kGQ s b6=b6+1:=by unfold kGQ;rw [h43];rfl
        have e2:kI3 s b6=1:=by unfold kI3;rw [h43];rfl
        have e3:signB s b6=true:=by unfold signB;rw [h43];rfl
        have hb8:=kCR h43;rw [e1] at hx;rw [if_neg (by rw [h45];decide),if_pos h43] at hf;have HF:=hJ hf;have HS8:=hJ (HS6.out.step hx hk8 hb8);clear hx hk8 HS6 hf e1 h43 h45;rw [e2,e3]
        go_wp2_with fail
        go_roundg g
        case measure=>omega
        case rel=>exact ⟨b6+1,m+1,n',1,acc,rfl,.inl rfl,by omega,by omega,by omega,HA2,HS8,HF⟩
      | false =>
        cases h45:isAt s b6 45 with
        | true =>
          have e1:kGQ s b6=b6+1:=by unfold kGQ isTo;rw [h43,h45];rfl
          have e2:kI3 s b6= -1:=by unfold kI3;rw [h43,h45];rfl
          have e3:signB s b6=true:=by unfold signB;rw [h43,h45];rfl
          have hb8:=kCR h45;rw [e1] at hx;rw [if_pos h45] at hf;have HF:=hJ hf;have HS8:=hJ (HS6.out.step hx hk8 hb8);clear hx hk8 HS6 hf e1 h43 h45;rw [e2,e3]
          go_wp2_with fail
          go_roundg g
          case measure=>omega
          case rel=>exact ⟨b6+1,m+1,n',-1,acc,rfl,.inr rfl,by omega,by omega,by omega,HA2,HS8,HF⟩
        | false =>
          have e1:kGQ s b6=b6:=by unfold kGQ isTo;rw [h43,h45];rfl
          have e3:signB s b6=false:=by unfold signB;rw [h43,h45];rfl
          rw [e1] at hx;rw [if_neg (by rw [h45];decide),if_neg (by rw [h43];decide)] at hf;have HF:=hJ hf;have HS8:=hJ (HS6.out.step hx hk8 hb6);have HRs:=hJ HS8.out.res;have HBl:=hJ HS8.out.below;clear hx hk8 HS6 hf e1 h43 h45;rw [e3];have z0:=HRs.out.cell 0 _ rfl;have z1:=HRs.out.cell 1 _ rfl;have f0:=HRs.out.fz 0;have f1:=HRs.out.fz 1;have hl0:=HRs.out.lt;have HZz:=hJ ((HRs.out.set 0 (.int .i64 0)).set 1 (.slice none 0 0));have s0:=HZz.out.cell 0 _ rfl;have s1:=HZz.out.cell 1 _ rfl
          go_wp2_with fail
          refine bodyPost_ret (v:=.tuple #[.agg #[.int .i64 0,.slice none 0 0],.int .i64 6]) (by simp [results,results67,go_sem,s0,s1,hl0]) rfl ?_;exact ⟨⟨_,by rw [← HF.out];rfl,by rw [← HF.out];exact RLin.zero _ _⟩,(HBl.out.setCell (Nat.le_refl _) _).setCell (Nat.le_refl _) _⟩
theorem itemP_law:ItemLaw kBW:=by
 intro pre rest n v hp hr;have hq:=hp.hi
 have hrest:0<rest.size→(bt rest 0=43∨bt rest 0=45):=fun h=>by
  rcases hr with q | q
  · omega
  · exact q.2
 cases hv:v.toList.isEmpty with
 | true =>
   obtain rfl:=kD8 hv;have hb:kA7 n ⟨#[]⟩=kAR (n:Int):=by unfold kA7 numS;rw [if_neg (by rw [hv];simp),kCZ]
   rw [hb];obtain ⟨hz1,hz7⟩:=kG1 hq
   have hrun:runD (pre++(kAR (n:Int)++rest)) pre.size=pre.size+(kAR (n:Int)).size:=by
    refine kHK (fun i hi=>?_) (fun h=>?_)
    · rw [kDC hi,kC4 n i hi]
    · rw [kCS h];exact (kBV (hrest h)).1
   have h0:bt (pre++(kAR (n:Int)++rest)) pre.size=bt (kAR (n:Int)) 0:=by
    have:=kDC (a:=pre) (b:=kAR (n:Int)) (c:=rest) (k:=0) (by omega)
    rwa [Nat.add_zero] at this
   have hbl:blk (pre++(kAR (n:Int)++rest)) (pre.size+(kAR (n:Int)).size)=pre.size+(kAR (n:Int)).size:=by
    rcases Nat.eq_zero_or_pos rest.size with h | h
    · exact kBX (by rw [kC0];omega)
    · exact kB5 (by rw [kCS h];exact (kBV (hrest h)).2.2.2.1)
   have hs:isAt (pre++(kAR (n:Int)++rest)) (pre.size+(kAR (n:Int)).size) 42=false:=by
    unfold isAt;rcases Nat.eq_zero_or_pos rest.size with h | h
    · rw [decide_eq_false (by rw [kC0];omega)];rfl
    · rw [kCS h,(kBV (hrest h)).2.2.2.2,Bool.and_false]
   have hl:(decide ((pre++(kAR (n:Int)++rest)).size≤pre.size+(kAR (n:Int)).size) || !kB4 (bt (pre++(kAR (n:Int)++rest)) (pre.size+(kAR (n:Int)).size)))=true:=by
    rcases Nat.eq_zero_or_pos rest.size with h | h
    · rw [decide_eq_true (by rw [kC0];omega)];rfl
    · have:=kBV (hrest h)
      rw [kCS h];unfold kB4;rw [this.1,this.2.1,this.2.2.1];simp
   unfold kBW;rw [if_neg (by rw [kC0];omega),h0,if_pos (kC4 n 0 (by omega)),hrun,kD6,if_pos (kIE hq).2,kKA];unfold itemQ;rw [hbl,hs,if_neg (by decide),if_pos hl]
 | false =>
   obtain ⟨hn,hpos⟩:=hp.name hv;obtain ⟨v0,vh,va⟩:=kIC hn;have hvl:=letter_not vh
   have hP:∀ i,i<v.size→kB4 (bt v i)=true:=fun i hi=>by
    unfold kB4;rcases va i hi with q | q | ⟨q,q2⟩
    · rw [q];simp
    · rw [q];rfl
    · rw [q];decide
   have hS:∀ c,c=43∨c=45→kB4 c=false:=fun c hc=>by
    have:=kBV hc;unfold kB4;rw [this.1,this.2.1,this.2.2.1];rfl
   by_cases h1:n=1
   · subst h1
     have hb:kA7 1 v=v:=by unfold kA7 numS;rw [if_pos ⟨hv,rfl⟩,kDR]
     rw [hb]
     have h0:bt (pre++(v++rest)) pre.size=bt v 0:=by
      have:=kDC (a:=pre) (b:=v) (c:=rest) v0
      rwa [Nat.add_zero] at this
     have hrun:runL (pre++(v++rest)) pre.size=pre.size+v.size:=by
      refine kHK (fun i hi=>?_) (fun h=>?_)
      · rw [kDC hi];exact hP i hi
      · rw [kCS h];exact hS _ (hrest h)
     unfold kBW;rw [if_neg (by rw [kC0];omega),h0,if_neg (by rw [hvl.1];decide)];unfold nameP;rw [hrun,kD6,hn];rfl
   · have hb:kA7 n v=kAR (n:Int)++v:=by unfold kA7 numS;rw [if_neg (fun q=>h1 q.2)]
     rw [hb];obtain ⟨hz1,hz7⟩:=kG1 hq;have hsp:pre++(kAR (n:Int)++v++rest)=pre++(kAR (n:Int)++(v++rest)):=by rw [ByteArray.append_assoc]
     have hsq:pre++(kAR (n:Int)++(v++rest))=(pre++kAR (n:Int))++(v++rest):=by rw [ByteArray.append_assoc]
     rw [hsp];have hvr:0<(v++rest).size:=by rw [ByteArray.size_append];omega
     have hbv:bt (v++rest) 0=bt v 0:=kBL v0
     have hrun:runD (pre++(kAR (n:Int)++(v++rest))) pre.size=pre.size+(kAR (n:Int)).size:=by
      refine kHK (fun i hi=>?_) (fun h=>?_)
      · rw [kDC hi,kC4 n i hi]
      · rw [kCS h,hbv];exact hvl.1
     have h0:bt (pre++(kAR (n:Int)++(v++rest))) pre.size=bt (kAR (n:Int)) 0:=by
      have:=kDC (a:=pre) (b:=kAR (n:Int)) (c:=v++rest) (k:=0) (by omega)
      rwa [Nat.add_zero] at this
     have hbl:blk (pre++(kAR (n:Int)++(v++rest))) (pre.size+(kAR (n:Int)).size)=pre.size+(kAR (n:Int)).size:=kB5 (by rw [kCS hvr,hbv];exact hvl.2.1)
     have hs:isAt (pre++(kAR (n:Int)++(v++rest))) (pre.size+(kAR (n:Int)).size) 42=false:=by
      unfold isAt;rw [kCS hvr,hbv,hvl.2.2.1,Bool.and_false]
     have hl:(decide ((pre++(kAR (n:Int)++(v++rest))).size≤pre.size+(kAR (n:Int)).size) || !kB4 (bt (pre++(kAR (n:Int)++(v++rest))) (pre.size+(kAR (n:Int)).size)))=false:=by
      rw [decide_eq_false (by rw [kC0];omega),kCS hvr,hbv,hvl.2.2.2.1];rfl
     unfold kBW;rw [if_neg (by rw [kC0];omega),h0,if_pos (kC4 n 0 (by omega)),hrun,kD6,if_pos (kIE hq).2,kKA];unfold itemQ;rw [hbl,hs,if_neg (by decide),if_neg (by rw [hl];decide)];unfold nameP;rw [hsq,← ByteArray.size_append]
     have hrun2:runL ((pre++kAR (n:Int))++(v++rest)) (pre++kAR (n:Int)).size=(pre++kAR (n:Int)).size+v.size:=by
      refine kHK (fun i hi=>?_) (fun h=>?_)
      · rw [kDC hi];exact hP i hi
      · rw [kCS h];exact hS _ (hrest h)
     rw [hrun2,kD6,hn]
     congr 3
     rw [ByteArray.size_append,ByteArray.size_append];omega
def sgnS (n:Int):Str:=if n<0 then ⟨#[45]⟩ else ⟨#[43]⟩
def kBY:List (Int × Str)→Str
 | []=>⟨#[]⟩
 | p :: l=>sgnS p.1++(kA7 p.1.natAbs p.2++kBY l)
def PairOk (p:Int × Str):Prop:=PartOk p.1.natAbs p.2
def sg (n:Int):Int:=if n<0 then -1 else 1
theorem sg_abs (n:Int):sg n * ((n.natAbs:Nat):Int)=n:=by unfold sg;split <;> omega
theorem kGR (n:Int):(sgnS n).size=1:=by unfold sgnS;split <;> rfl
theorem sgn_bt (n:Int):bt (sgnS n) 0=if n<0 then 45 else 43:=by unfold sgnS;split <;> decide
theorem kKK {n:Nat} {v:Str} (h:PartOk n v):0<(kA7 n v).size∧(bt (kA7 n v) 0==32)=false∧(bt (kA7 n v) 0==45)=false∧(bt (kA7 n v) 0==43)=false:=by
 unfold kA7 numS
 split
 · rename_i q
   obtain ⟨hn,_⟩:=h.name q.1;obtain ⟨v0,vh,_⟩:=kIC hn;rw [kDR];refine ⟨v0,(letter_not vh).2.1,?_,?_⟩
   · rcases vh with e | e
     · have:=of_decide_eq_true e;exact beq_eq_false_iff_ne.2 (by omega)
     · rw [e];decide
   · rcases vh with e | e
     · have:=of_decide_eq_true e;exact beq_eq_false_iff_ne.2 (by omega)
     · rw [e];decide
 · have h1:=(kG1 h.hi).1
   have hd:=of_decide_eq_true (kC4 n 0 (by omega));rw [kBL (by omega)];refine ⟨by rw [ByteArray.size_append];omega,beq_eq_false_iff_ne.2 (by omega),beq_eq_false_iff_ne.2 (by omega),beq_eq_false_iff_ne.2 (by omega)⟩
theorem tail_stop (l:List (Int × Str)):(kBY l).size=0∨(0<(kBY l).size∧(bt (kBY l) 0=43∨bt (kBY l) 0=45)):=by
 cases l with
 | nil=>exact .inl rfl
 | cons p l =>
   right
   unfold kBY;rw [ByteArray.size_append,kBL (by rw [kGR];decide),sgn_bt,kGR];refine ⟨by omega,?_⟩
   split <;> simp
def accs:Lin→List (Int × Str)→Lin
 | x,[]=>x
 | x,p :: l=>accs (kEX x p.1 p.2) l
theorem loop_law {it:Str→Nat→Int × Str × Bool × Nat} (hit:ItemLaw it):∀ (l:List (Int × Str)) (p:Int × Str) (pre:Str) (f:Nat) (out:Lin),PairOk p→(∀ q ∈ l,PairOk q)→l.length<f →
 kJ0 (it (pre++(kA7 p.1.natAbs p.2++kBY l))) (pre++(kA7 p.1.natAbs p.2++kBY l)) f pre.size (sg p.1) out=some (accs out (p :: l)):=by
 intro l
 induction l with
 | nil =>
   intro p pre f out hp _ hf;obtain ⟨f,rfl⟩:∃ g,f=g+1:=⟨f - 1,by omega⟩
   obtain ⟨b0,b1,_⟩:=kKK hp
   have hb:blk (pre++(kA7 p.1.natAbs p.2++kBY [])) pre.size=pre.size:=kB5 (by
    have:=kDC (a:=pre) (b:=kA7 p.1.natAbs p.2) (c:=kBY []) b0;rw [Nat.add_zero] at this;rw [this];exact b1)
   have hi:=hit pre (kBY []) p.1.natAbs p.2 hp (.inl rfl);have hz:(pre++(kA7 p.1.natAbs p.2++kBY [])).size=pre.size+(kA7 p.1.natAbs p.2).size:=by rw [kC0];rfl
   have hb2:blk (pre++(kA7 p.1.natAbs p.2++kBY [])) (pre.size+(kA7 p.1.natAbs p.2).size)=pre.size+(kA7 p.1.natAbs p.2).size:=kBX (by omega);rw [kJ0,hb,hi];dsimp only;rw [if_pos rfl,hb2,if_pos hz.symm,sg_abs];rfl
 | cons q l ih =>
   intro p pre f out hp hl hf;obtain ⟨f,rfl⟩:∃ g,f=g+1:=⟨f - 1,by omega⟩
   obtain ⟨b0,b1,_⟩:=kKK hp
   have hb:blk (pre++(kA7 p.1.natAbs p.2++kBY (q :: l))) pre.size=pre.size:=kB5 (by
    have:=kDC (a:=pre) (b:=kA7 p.1.natAbs p.2) (c:=kBY (q :: l)) b0;rw [Nat.add_zero] at this;rw [this];exact b1)
   have hi:=hit pre (kBY (q :: l)) p.1.natAbs p.2 hp (tail_stop _);have ht:0<(kBY (q :: l)).size:=by unfold kBY;rw [ByteArray.size_append,kGR];omega
   have hbt:bt (pre++(kA7 p.1.natAbs p.2++kBY (q :: l))) (pre.size+(kA7 p.1.natAbs p.2).size)=if q.1<0 then 45 else 43:=by
    rw [kCS ht];unfold kBY;rw [kBL (by rw [kGR];decide),sgn_bt]
   have hb2:blk (pre++(kA7 p.1.natAbs p.2++kBY (q :: l))) (pre.size+(kA7 p.1.natAbs p.2).size)=pre.size+(kA7 p.1.natAbs p.2).size:=kB5 (by rw [hbt];split <;> decide);have hlt:pre.size+(kA7 p.1.natAbs p.2).size<(pre++(kA7 p.1.natAbs p.2++kBY (q :: l))).size:=by rw [kC0];omega
   have hsp:pre++(kA7 p.1.natAbs p.2++kBY (q :: l))=(pre++(kA7 p.1.natAbs p.2++sgnS q.1))++(kA7 q.1.natAbs q.2++kBY l):=by
    rw [show kBY (q :: l)=sgnS q.1++(kA7 q.1.natAbs q.2++kBY l) from rfl];simp only [ByteArray.append_assoc]
   have hsz:(pre++(kA7 p.1.natAbs p.2++sgnS q.1)).size=pre.size+(kA7 p.1.natAbs p.2).size+1:=by rw [kC0,kGR]
   have hih:=ih q (pre++(kA7 p.1.natAbs p.2++sgnS q.1)) f (kEX out p.1 p.2) (hl q (List.mem_cons_self ..)) (fun z hz=>hl z (List.mem_cons_of_mem _ hz)) (by rw [List.length_cons] at hf;omega);rw [← hsp,hsz] at hih;rw [kJ0,hb,hi];dsimp only;rw [if_pos rfl,hb2,if_neg (by omega),sg_abs];unfold isAt;rw [hbt,decide_eq_true hlt];by_cases hq:q.1<0
   · rw [if_pos hq,if_pos (by decide)]
     rw [show sg q.1= -1 from if_pos hq] at hih;exact hih
   · rw [if_neg hq,if_neg (by decide),if_pos (by decide)]
     rw [show sg q.1=1 from if_neg hq] at hih;exact hih
theorem ins_last (s:Str) (c:Int):∀ (l:List Coef),(∀ t ∈ l,slt t.v s=true)→ins s c l=l++[⟨s,c⟩]
 | [],_=>rfl
 | t :: l,h=>by
   have ht:=h t (List.mem_cons_self ..);have e1:slt s t.v=false:=kF3 ht;have e2:seq t.v s=false:=slt_ne ht;have e3:seq s t.v=false:=by rw [kH5];exact e2
   unfold ins;have ih:=ins_last s c l (fun u hu=>h u (List.mem_cons_of_mem _ hu));simp [e1,e2,e3,ht,ih]
theorem plus_last {l:List Coef} {t:Coef} (hs:Srt (l++[t])) (hn:Nz (l++[t])):plus l t.v t.c=l++[t]:=by
 have h1:Srt l:=List.Pairwise.sublist (List.sublist_append_left l [t]) hs;have h2:∀ u ∈ l,slt u.v t.v=true:=fun u hu=>(List.pairwise_append.1 hs).2.2 u hu t (List.mem_singleton.2 rfl)
 unfold plus;rw [kE8 h1,ins_last _ _ _ h2];exact List.filter_eq_self.2 (fun u hu=>by unfold nzB;exact bne_iff_ne.2 (hn u hu))
def termP (t:Coef):Int × Str:=(t.c,t.v)
theorem accs_terms {k:Int}:∀ (l2 l1:List Coef),Srt (l1++l2)→Nz (l1++l2)→(∀ t ∈ l2,kAT t.v=true)→∀ r,accs ⟨k,l1⟩ (l2.map termP++r)=accs ⟨k,l1++l2⟩ r
 | [],l1,_,_,_,r=>by rw [List.append_nil];rfl
 | t :: l2,l1,hs,hn,hm,r=>by
   rw [List.map_cons,List.cons_append]
   show accs (kEX ⟨k,l1⟩ t.c t.v) _=_
   rw [show l1++t :: l2=(l1++[t])++l2 by simp] at hs hn ⊢;rw [accum_name _ _ (kGE (hm t (List.mem_cons_self ..)))];rw [plus_last (List.Pairwise.sublist (List.sublist_append_left _ _) hs) (fun u hu=>hn u (List.mem_append_left _ hu))];exact accs_terms l2 (l1++[t]) hs hn (fun u hu=>hm u (List.mem_cons_of_mem _ hu)) r
def pcs (x:Lin):List (Int × Str):=x.terms.map termP++(if endB (sumS x.terms) x.const then [(x.const,⟨#[]⟩)] else [])
theorem kGD:(⟨#[]⟩:Str).toList.isEmpty=true:=by rw [ByteArray.toList_eq];rfl
theorem accs_pcs {x:Lin} (h:kAC x=true):accs ⟨0,[]⟩ (pcs x)=x:=by
 obtain ⟨hs,hn,_,hm,_,_⟩:=kA8 h;unfold pcs;rw [accs_terms x.terms [] hs hn hm]
 split
 · show kEX ⟨0,[]++x.terms⟩ x.const ⟨#[]⟩=x
   rw [kJD _ _ kGD,List.nil_append,Int.zero_add]
 · rename_i he
   unfold endB at he;rw [Bool.or_eq_true,not_or] at he;have h0:x.const=0:=by have:=he.1;simpa using this
   show (⟨0,[]++x.terms⟩:Lin)=x
   rw [List.nil_append,← h0]
theorem pcs_ok {x:Lin} (h:kAC x=true):∀ p ∈ pcs x,PairOk p:=by
 obtain ⟨hs,hn,hb,hm,hc,_⟩:=kA8 h;intro p hp;unfold pcs at hp;rcases List.mem_append.1 hp with q | q
 · obtain ⟨t,ht,rfl⟩:=List.mem_map.1 q
   have h1:=hb t ht;have h2:=hn t ht;exact ⟨by show t.c.natAbs<_;omega,fun _=>⟨hm t ht,by show 0<t.c.natAbs;omega⟩⟩
 · split at q
   · rw [List.mem_singleton] at q
     subst q;exact ⟨by show x.const.natAbs<_;omega,fun e=>by rw [kGD] at e;cases e⟩
   · cases q
theorem pcs_len {x:Lin} (h:kAC x=true):0<(pcs x).length∧(pcs x).length≤13:=by
 obtain ⟨_,_,_,_,_,hl⟩:=kA8 h;unfold pcs;rw [List.length_append,List.length_map];refine ⟨?_,by split <;> simp <;> omega⟩;cases ht:x.terms with
 | nil =>
   rw [if_pos (by unfold endB sumS;rw [List.foldl_nil,kGD,Bool.or_true])];simp
 | cons t l=>simp only [List.length_cons];omega
theorem part_body {o v:Str} {n:Int} (h:PairOk (n,v)):kCO o n v=(if n<0 then o++⟨#[45]⟩ else kEO o 1)++kA7 n.natAbs v:=by
 have hp:PartOk n.natAbs v:=h;unfold kCO kA7;rw [← ByteArray.append_assoc,← ByteArray.append_assoc]
 congr 1
 by_cases h1:oneB n v=true
 · have h2:=h1
   unfold oneB at h2;rw [Bool.and_eq_true,Bool.or_eq_true,beq_iff_eq,beq_iff_eq,Bool.not_eq_true'] at h2;have hn:numS n.natAbs v=⟨#[]⟩:=by unfold numS;rw [if_pos ⟨h2.1,by rcases h2.2 with e | e <;> omega⟩]
   unfold digS;rw [if_pos h1,hn,kCZ];rcases h2.2 with rfl | rfl
   · rw [cut_1,kCZ,if_neg (by decide)]
   · rw [cut_m1,if_pos (by decide)]
     rfl
 · have h2:=h1
   have hn:numS n.natAbs v=kAR (n.natAbs:Int):=by
    unfold numS;rw [if_neg];rintro ⟨q1,q2⟩;apply h2;unfold oneB;rw [q1];have:n=1∨n= -1:=by omega
    rcases this with rfl | rfl <;> decide
   unfold digS;rw [if_neg h1,hn];by_cases hneg:n<0
   · rw [if_pos hneg]
     have e:kAR n=(⟨#[45]⟩:Str)++kAR (n.natAbs:Int):=by
      rw [itoa_minus (by omega)]
      congr 1;omega
     rw [e];unfold kEO kFD;rw [decide_eq_false (by omega),Bool.false_and,if_neg (by decide),ByteArray.append_assoc]
   · rw [if_neg hneg]
     have e:((n.natAbs:Nat):Int)=n:=by omega
     rw [e]
     congr 1
     unfold kEO kFD;rw [decide_eq_true (by omega),decide_eq_true (by decide)]
theorem part_full {o v:Str} {n:Int} (h:PairOk (n,v)):(kCO o n v).toList.isEmpty=false:=by
 rw [part_body h];exact kDG (by rw [ByteArray.size_append];have:=(kKK (n:=n.natAbs) (v:=v) h).1;omega)
theorem fold_tail:∀ (l:List (Int × Str)) (o:Str),(∀ p ∈ l,PairOk p)→o.toList.isEmpty=false→l.foldl (fun o p=>kCO o p.1 p.2) o=o++kBY l
 | [],o,_,_=>(kCZ o).symm
 | p :: l,o,hl,ho=>by
   have hp:=hl p (List.mem_cons_self ..);rw [List.foldl_cons,fold_tail l _ (fun q hq=>hl q (List.mem_cons_of_mem _ hq)) (part_full hp),part_body hp]
   show _=o++(sgnS p.1++(kA7 p.1.natAbs p.2++kBY l))
   rw [plus_yes ho];unfold sgnS
   split <;> simp only [ByteArray.append_assoc]
def kC5 (n:Int):Str:=if n<0 then ⟨#[45]⟩ else ⟨#[]⟩
theorem printL_fold {x:Lin} (h:kAC x=true):kAF x=(pcs x).foldl (fun o p=>kCO o p.1 p.2) ⟨#[]⟩:=by
 unfold kAF pcs;rw [if_pos h,List.foldl_append,List.foldl_map]
 show endS (sumS x.terms) x.const=_
 rw [show List.foldl (fun (o:Str) (t:Coef)=>kCO o (termP t).1 (termP t).2) ⟨#[]⟩ x.terms=sumS x.terms from rfl];unfold endS
 split <;> rfl
theorem kHN {x:Lin} (h:kAC x=true):∃ p l,pcs x=p :: l∧kAF x=kC5 p.1++(kA7 p.1.natAbs p.2++kBY l):=by
 have hl:=(pcs_len h).1;have hk:=pcs_ok h;rw [printL_fold h];cases hp:pcs x with
 | nil=>rw [hp] at hl;simp at hl
 | cons p l =>
   rw [hp] at hk;refine ⟨p,l,rfl,?_⟩;have hp1:=hk p (List.mem_cons_self ..);rw [List.foldl_cons,fold_tail l _ (fun q hq=>hk q (List.mem_cons_of_mem _ hq)) (part_full hp1),part_body hp1,plus_no kGD];unfold kC5
   split
   · rw [kDR,ByteArray.append_assoc]
   · rw [kDR,kDR]
theorem parse_print {it:Str→Nat→Int × Str × Bool × Nat} (hit:ItemLaw it) {x:Lin} (h:kAC x=true):kA5 (it (kAF x)) (kAF x)=some x:=by
 obtain ⟨p,l,e1,e2⟩:=kHN h;have hk:=pcs_ok h;have ha:=accs_pcs h;have hlen:=(pcs_len h).2;rw [e1] at hk ha hlen;have hp:=hk p (List.mem_cons_self ..);obtain ⟨b0,b1,b2,b3⟩:=kKK (n:=p.1.natAbs) (v:=p.2) hp
 have hlt:l.length<(kAF x).size+1:=by
  have hz:∀ (l:List (Int × Str)),l.length≤(kBY l).size:=fun l=>by
   induction l with
   | nil=>exact Nat.le_refl _
   | cons q l ih=>unfold kBY;rw [ByteArray.size_append,ByteArray.size_append,kGR,List.length_cons];omega
  rw [e2,ByteArray.size_append,ByteArray.size_append];have:=hz l;omega
 unfold kA5;rw [e2] at hlt ⊢;have hw:=loop_law hit l p (kC5 p.1) ((kC5 p.1++(kA7 p.1.natAbs p.2++kBY l)).size+1) ⟨0,[]⟩ hp (fun q hq=>hk q (List.mem_cons_of_mem _ hq)) hlt;rw [ha] at hw;by_cases hn:p.1<0
 · have hf:kC5 p.1=⟨#[45]⟩:=if_pos hn
   have h0:bt (kC5 p.1++(kA7 p.1.natAbs p.2++kBY l)) 0=45:=by rw [hf,kBL (by decide)];decide
   have hbl:blk (kC5 p.1++(kA7 p.1.natAbs p.2++kBY l)) 0=0:=kB5 (by rw [h0];decide)
   have his:isAt (kC5 p.1++(kA7 p.1.natAbs p.2++kBY l)) 0 45=true:=by
    unfold isAt;rw [h0,decide_eq_true (by rw [ByteArray.size_append,ByteArray.size_append];omega)];rfl
   have hk1:kJN (kC5 p.1++(kA7 p.1.natAbs p.2++kBY l))=(kC5 p.1).size:=by unfold kJN;rw [hbl,if_pos his,hf];rfl
   have hs1:kJM (kC5 p.1++(kA7 p.1.natAbs p.2++kBY l))=sg p.1:=by unfold kJM;rw [hbl,if_pos his];exact (if_pos hn).symm
   rw [hk1,hs1];exact hw
 · have hf:kC5 p.1=⟨#[]⟩:=if_neg hn
   have h0:bt (kC5 p.1++(kA7 p.1.natAbs p.2++kBY l)) 0=bt (kA7 p.1.natAbs p.2) 0:=by rw [hf,kDR,kBL b0]
   have hbl:blk (kC5 p.1++(kA7 p.1.natAbs p.2++kBY l)) 0=0:=kB5 (by rw [h0];exact b1);have his:isAt (kC5 p.1++(kA7 p.1.natAbs p.2++kBY l)) 0 45=false:=by unfold isAt;rw [h0,b2,Bool.and_false]
   have his2:isAt (kC5 p.1++(kA7 p.1.natAbs p.2++kBY l)) 0 43=false:=by unfold isAt;rw [h0,b3,Bool.and_false]
   have hk1:kJN (kC5 p.1++(kA7 p.1.natAbs p.2++kBY l))=(kC5 p.1).size:=by unfold kJN isTo;rw [hbl,if_neg (by rw [his];decide),if_neg (by rw [his2];decide),hf];rfl
   have hs1:kJM (kC5 p.1++(kA7 p.1.natAbs p.2++kBY l))=sg p.1:=by unfold kJM;rw [hbl,if_neg (by rw [his];decide)];exact (if_neg hn).symm
   rw [hk1,hs1];exact hw
theorem kJW {it:Str→Nat→Int × Str × Bool × Nat} (hit:ItemLaw it) {x:Lin} (h:kAC x=true):kEU (kA5 (it (kAF x)) (kAF x))=0∧kET (kA5 (it (kAF x)) (kAF x))=x:=by
 rw [parse_print hit h]
 show limE x=0∧limL x=x
 unfold limE limL;rw [if_pos h,if_pos h];exact ⟨rfl,rfl⟩
theorem joinS_next {l:List Str} (h:l≠[]) (x sep:Str):kAO (l++[x]) sep=(kAO l sep++sep)++x:=by
 cases l with
 | nil=>exact absurd rfl h
 | cons y r =>
   unfold kAO;rw [List.cons_append,List.map_cons,List.map_cons,Lib.join_cons,Lib.join_cons,List.map_append];unfold Lib.joinTail;apply ByteArray.ext;rw [ByteArray.data_append,ByteArray.data_append];simp
theorem kCH (x sep:Str):kAO [x] sep=x:=by
 unfold kAO;rw [List.map_cons,List.map_nil,Lib.join_one]
theorem kGG (sep:Str):kAO [] sep=⟨#[]⟩:=rfl
theorem kE1 {l:List Str} (hl:∀ x ∈ l,x.toList.isEmpty=false) (sep:Str):(kAO l sep).toList.isEmpty=l.isEmpty:=by
 cases l with
 | nil=>rw [kGG,ByteArray.toList_eq];rfl
 | cons y r =>
   have h1:=hl y (List.mem_cons_self ..);unfold kAO;rw [List.map_cons,Lib.join_cons];rw [ByteArray.toList_eq] at h1 ⊢;cases hy:y.data.toList with
   | nil=>rw [hy] at h1;cases h1
   | cons c t=>simp
theorem kDQ {s:Str} (h:s.toList.isEmpty=false):0<s.size:=by
 rcases Nat.eq_zero_or_pos s.size with q | q
 · rw [ByteArray.toList_eq,show s.data.toList=[] from List.eq_nil_of_length_eq_zero (by rw [Array.length_toList];exact q)] at h;cases h
 · exact q
theorem kD5 {x:Lin} (h:kAC x=true):(kAF x).toList.isEmpty=false:=by
 unfold kAF;rw [if_pos h];obtain ⟨_,_,hb,hn,hc,hl⟩:=kA8 h;unfold endS
 split
 · rename_i he
   have hz:0<(kAR x.const).size:=by
    unfold kAR
    show 0<(Lib.itoa x.const).toArray.size
    rw [List.size_toArray];unfold Lib.itoa
    split
    · simp
    · rw [Lib.decDigits_length];exact Lib.nDigits_pos _
   refine kDG (Nat.lt_of_lt_of_le hz ?_);unfold kCO digS oneB;have e0:(⟨#[]⟩:Str).toList.isEmpty=true:=by rw [ByteArray.toList_eq];rfl
   rw [e0];simp only [Bool.not_true,Bool.false_and,Bool.false_eq_true,if_false];rw [ByteArray.size_append,ByteArray.size_append];omega
 · rename_i he
   unfold endB at he;rw [Bool.or_eq_true] at he;cases hq:(sumS x.terms).toList.isEmpty with
   | false=>rfl
   | true=>exact absurd (.inr hq) he
def kCF (b:Bool):Int:=if b then 0 else 1
theorem rowL_full (x:Shp):∀ y ∈ rowL x,y.toList.isEmpty=false:=fun y hy=>by
 unfold rowL at hy
 split at hy
 · cases hy
 · rw [List.mem_singleton] at hy
   subst hy;exact kDG (by rw [ByteArray.size_append];show 0<_+2;omega)
theorem kCK {x:Shp} (h:kAG x=true):x.dims.length≤6∧∀ y ∈ x.dims,kAC y=true:=by
 unfold kAG at h;rw [Bool.and_eq_true,Bool.and_eq_true] at h;refine ⟨of_decide_eq_true h.2.1,fun y hy=>?_⟩;have h2:=h.2.2;rw [Bool.not_eq_true',List.any_eq_false] at h2;have:=h2 y hy
 simpa using this
theorem ref11_Print {S:Blk} {x:Shp} {cs:List Value} {w:World} (h:RShp.rd S w cs x) (hz:szH x) :
 Calls Tryz.prog 84 #[.agg cs.toArray] w fun e w'=>e= .returned (.tuple #[.string (kCC x),.int .i64 (kCF (kAG x))])∧Below w.heap.size w w':=by
 have HV:Hid (∀ W,Below w.heap.size w W→Calls Tryz.prog 57 #[.agg cs.toArray] W fun e w'=>e= .returned (.bool (kAG x))∧Below W.heap.size W w'):=hJ (fun W hW=>kI6 (RShp.below h hW) hz);obtain ⟨t,rfl,a,c,rfl,hs⟩:=h;have hm:=hs.small;have HZ:=hJ hz.2;have hrz:=hz.1;have HS0:=hJ hs
 have HJz:Hid (∀ k,(kAO (rowL x++(x.dims.take k).map kAF) ⟨#[44,32]⟩).size≤(1+x.dims.length) * 11002):=hJ (fun k=>by
  have h1:=kIA x hrz
  have h2:=kDN (M:=11000) (rowL x++(x.dims.take k).map kAF) ⟨#[44,32]⟩ (fun y hy=>h1 y (by
   rcases List.mem_append.1 hy with q | q
   · exact List.mem_append_left _ q
   · refine List.mem_append_right _ ?_
     obtain ⟨z,hz1,hz2⟩:=List.mem_map.1 q;exact List.mem_map.2 ⟨z,List.mem_of_mem_take hz1,hz2⟩))
  have h3:(rowL x++(x.dims.take k).map kAF).length≤1+x.dims.length:=by
   rw [List.length_append,List.length_map,List.length_take];have:=rowL_len x;omega
  exact Nat.le_trans h2 (Nat.mul_le_mul h3 (by decide)))
 clear hs hz;generalize hn:x.dims.length=n at *;have HL:=hJ hn;clear hn;obtain ⟨B0,ya,hW0⟩:=box1 w 24 [.string x.row,.slice a n c];have xa0:=box0 ya 0 _ rfl;have xa1:=box0 ya 1 _ rfl;clear ya;have HC:=hJ (HV.out _ B0.out);cases hv:kAG x with
 | false =>
   have HF:Hid (kCC x=⟨#[]⟩):=hJ (by unfold kCC;rw [hv];rfl);rw [hv] at HC;go_enter func84,ntmps84
   go_wp2_with fail
   refine (HC.out).mono ?_;rintro e w1 ⟨rfl,hb⟩
   go_wp2_with fail
   refine bodyPost_ret (v:=.tuple #[.string ⟨#[]⟩,.int .i64 1]) (by simp [results,results84,go_sem]) rfl ?_;exact ⟨by rw [HF.out];rfl,B0.out.trans (hb.mono B0.out.size)⟩
 | true =>
   have HF:Hid (kCC x=kA3 x):=hJ (by unfold kCC;rw [if_pos hv]);obtain ⟨hn6,hvd⟩:=kCK hv;rw [HL.out] at hn6;have HVd:=hJ hvd;rw [hv] at HC;have HT:Hid (kA3 x=((⟨#[91]⟩:Str)++kAO (rowL x++x.dims.map kAF) ⟨#[44,32]⟩)++⟨#[93]⟩):=hJ rfl
   have HEm:Hid (∀ k,(kAO (rowL x++(x.dims.take k).map kAF) ⟨#[44,32]⟩).toList.isEmpty=(rowL x++(x.dims.take k).map kAF).isEmpty):=hJ (fun k=>kE1 (fun y hy=>by
    rcases List.mem_append.1 hy with q | q
    · exact rowL_full x y q
    · obtain ⟨z,hz1,rfl⟩:=List.mem_map.1 q
      exact kD5 (hvd z (List.mem_of_mem_take hz1))) _)
   have HR0:Hid (rowL x=if x.row.toList.isEmpty then [] else [x.row++⟨#[46,46]⟩]):=hJ rfl;clear HV hv hvd;go_enter func84,ntmps84
   go_wp2_with fail
   refine HC.out.mono ?_;rintro e w1 ⟨rfl,hb⟩;have HW1:Hid (Below w.heap.size w w1):=hJ (B0.out.trans (hb.mono B0.out.size));have HS:=hJ (HS0.out.below HW1.out);have g0:=kAE xa0 _ hb;have g1:=kAE xa1 _ hb;have hlw:w.heap.size<w1.heap.size:=kCJ g1;clear xa0 xa1 hb HC HS0 B0 hW0;cases hrow:x.row.toList.isEmpty with
   | true =>
     have HR1:Hid (kAO (rowL x) ⟨#[44,32]⟩=⟨#[]⟩):=hJ (by rw [HR0.out,if_pos hrow];rfl)
     go_wp2_with fail
     clear HR0 hrow
     go_loopw [4,5] (fun o i wr=>∃ k:Nat,k≤n∧i= .int .i64 k∧o= .string (kAO (rowL x++(x.dims.take k).map kAF) ⟨#[44,32]⟩)∧Below w1.heap.size w1 wr) (fun _ i _=>n - (intOf i).toNat)
     case atStart=>exact ⟨0,Nat.zero_le _,rfl,by rw [← HR1.out];simp,Below.refl _ _⟩
     case round =>
      obtain ⟨k,hk,rfl,rfl,hB⟩:=hrel;have r0:=kAE g0 _ hB;have r1:=kAE g1 _ hB;have hwr:=hB.size;have hjz:=HJz.out k;by_cases hlt:k<n
      · obtain ⟨b,off,rfl,hbW,_⟩:=HS.out.form k hlt
        obtain ⟨_,hr,⟨ta,tc,rfl,_⟩,c0,c1⟩:=(HS.out.below hB).lin k hlt;have hkl:k<x.dims.length:=by rw [HL.out];exact hlt
        have hnx:=kCQ kAF hkl;have HZk:=hJ (HZ.out _ (kAJ hkl));have HPr:=hJ (fun W hW=>kI7 (RLin.below (w':=W) hr hW) HZk.out);have hpz:=kDK (x.dims.getD k default);have hEm:=HEm.out k
        have HJn:Hid ((rowL x++(x.dims.take k).map kAF).isEmpty=false→kAO (rowL x++(x.dims.take (k+1)).map kAF) ⟨#[44,32]⟩=(kAO (rowL x++(x.dims.take k).map kAF) ⟨#[44,32]⟩++⟨#[44,32]⟩)++kAF (x.dims.getD k default)):=hJ (fun h=>by
         rw [hnx,← List.append_assoc,joinS_next (fun e=>by rw [e] at h;cases h)])
        have HJ0:Hid ((rowL x++(x.dims.take k).map kAF).isEmpty=true→kAO (rowL x++(x.dims.take (k+1)).map kAF) ⟨#[44,32]⟩=kAF (x.dims.getD k default)∧kAO (rowL x++(x.dims.take k).map kAF) ⟨#[44,32]⟩=⟨#[]⟩):=hJ (fun h=>by
         rw [hnx,← List.append_assoc,List.isEmpty_iff.1 h];exact ⟨kCH _ _,rfl⟩)
        clear hr hkl hnx;generalize x.dims.getD k default=y at *;generalize kAF y=d at *;cases hem:(rowL x++(x.dims.take k).map kAF).isEmpty with
        | true =>
          obtain ⟨hj1,hj2⟩:=HJ0.out hem;have HJ:=hJ hj1;rw [hj2];clear HJn HJ0 hj1 hj2 hem hEm hjz
          go_wp2_with fail
          refine (HPr.out _ (Below.refl _ _)).mono ?_;rintro e w5 ⟨rfl,hb5⟩
          go_wp2_with fail
          go_roundw
          case rel=>exact ⟨k+1,by omega,by go_num,by rw [HJ.out,kDR],hB.trans (hb5.mono hwr)⟩
          case measure=>simp [intOf];omega
        | false =>
          have HJ:=hJ (HJn.out hem);rw [hem] at hEm;clear HJn HJ0 hem;generalize kAO (rowL x++(x.dims.take k).map kAF) ⟨#[44,32]⟩=o at *;have hos:(o++(⟨#[44,32]⟩:Str)).size≤o.size+2:=by rw [ByteArray.size_append];exact Nat.le_refl _
          have hos2:o.size≤100000:=by omega
          go_wp2_with fail
          refine (HPr.out _ (Below.refl _ _)).mono ?_;rintro e w5 ⟨rfl,hb5⟩
          go_wp2_with fail
          go_roundw
          case rel=>exact ⟨k+1,by omega,by go_num,by rw [HJ.out],hB.trans (hb5.mono hwr)⟩
          case measure=>simp [intOf];omega
      · obtain rfl:k=n:=by omega
        have HEnd:Hid (x.dims.take k=x.dims):=hJ (List.take_of_length_le (by rw [HL.out];exact Nat.le_refl _));rw [HEnd.out] at hjz ⊢;generalize kAO (rowL x++x.dims.map kAF) ⟨#[44,32]⟩=o at *;have hos2:o.size≤100000:=by omega
        have hos:((⟨#[91]⟩:Str)++o).size≤100001:=by rw [ByteArray.size_append];show 1+o.size≤_;omega
        go_wp2_with fail
        refine bodyPost_ret (v:=.tuple #[.string ((⟨#[91]⟩++o)++⟨#[93]⟩),.int .i64 0]) (by simp [results,results84,go_sem]) rfl ?_;exact ⟨by rw [HF.out,HT.out];rfl,HW1.out.trans (hB.mono HW1.out.size)⟩
   | false =>
     have HR1:Hid (kAO (rowL x) ⟨#[44,32]⟩=x.row++⟨#[46,46]⟩):=hJ (by rw [HR0.out,if_neg (by rw [hrow];decide)];exact kCH _ _)
     go_wp2_with fail
     clear HR0 hrow
     go_loopw [4,5] (fun o i wr=>∃ k:Nat,k≤n∧i= .int .i64 k∧o= .string (kAO (rowL x++(x.dims.take k).map kAF) ⟨#[44,32]⟩)∧Below w1.heap.size w1 wr) (fun _ i _=>n - (intOf i).toNat)
     case atStart=>exact ⟨0,Nat.zero_le _,rfl,by rw [← HR1.out];simp,Below.refl _ _⟩
     case round =>
      obtain ⟨k,hk,rfl,rfl,hB⟩:=hrel;have r0:=kAE g0 _ hB;have r1:=kAE g1 _ hB;have hwr:=hB.size;have hjz:=HJz.out k;by_cases hlt:k<n
      · obtain ⟨b,off,rfl,hbW,_⟩:=HS.out.form k hlt
        obtain ⟨_,hr,⟨ta,tc,rfl,_⟩,c0,c1⟩:=(HS.out.below hB).lin k hlt;have hkl:k<x.dims.length:=by rw [HL.out];exact hlt
        have hnx:=kCQ kAF hkl;have HZk:=hJ (HZ.out _ (kAJ hkl));have HPr:=hJ (fun W hW=>kI7 (RLin.below (w':=W) hr hW) HZk.out);have hpz:=kDK (x.dims.getD k default);have hEm:=HEm.out k
        have HJn:Hid ((rowL x++(x.dims.take k).map kAF).isEmpty=false→kAO (rowL x++(x.dims.take (k+1)).map kAF) ⟨#[44,32]⟩=(kAO (rowL x++(x.dims.take k).map kAF) ⟨#[44,32]⟩++⟨#[44,32]⟩)++kAF (x.dims.getD k default)):=hJ (fun h=>by
         rw [hnx,← List.append_assoc,joinS_next (fun e=>by rw [e] at h;cases h)])
        have HJ0:Hid ((rowL x++(x.dims.take k).map kAF).isEmpty=true→kAO (rowL x++(x.dims.take (k+1)).map kAF) ⟨#[44,32]⟩=kAF (x.dims.getD k default)∧kAO (rowL x++(x.dims.take k).map kAF) ⟨#[44,32]⟩=⟨#[]⟩):=hJ (fun h=>by
         rw [hnx,← List.append_assoc,List.isEmpty_iff.1 h];exact ⟨kCH _ _,rfl⟩)
        clear hr hkl hnx;generalize x.dims.getD k default=y at *;generalize kAF y=d at *;cases hem:(rowL x++(x.dims.take k).map kAF).isEmpty with
        | true =>
          obtain ⟨hj1,hj2⟩:=HJ0.out hem;have HJ:=hJ hj1;rw [hj2];clear HJn HJ0 hj1 hj2 hem hEm hjz
          go_wp2_with fail
          refine (HPr.out _ (Below.refl _ _)).mono ?_;rintro e w5 ⟨rfl,hb5⟩
          go_wp2_with fail
          go_roundw
          case rel=>exact ⟨k+1,by omega,by go_num,by rw [HJ.out,kDR],hB.trans (hb5.mono hwr)⟩
          case measure=>simp [intOf];omega
        | false =>
          have HJ:=hJ (HJn.out hem);rw [hem] at hEm;clear HJn HJ0 hem;generalize kAO (rowL x++(x.dims.take k).map kAF) ⟨#[44,32]⟩=o at *;have hos:(o++(⟨#[44,32]⟩:Str)).size≤o.size+2:=by rw [ByteArray.size_append];exact Nat.le_refl _
          have hos2:o.size≤100000:=by omega
          go_wp2_with fail
          refine (HPr.out _ (Below.refl _ _)).mono ?_;rintro e w5 ⟨rfl,hb5⟩
          go_wp2_with fail
          go_roundw
          case rel=>exact ⟨k+1,by omega,by go_num,by rw [HJ.out],hB.trans (hb5.mono hwr)⟩
          case measure=>simp [intOf];omega
      · obtain rfl:k=n:=by omega
        have HEnd:Hid (x.dims.take k=x.dims):=hJ (List.take_of_length_le (by rw [HL.out];exact Nat.le_refl _));rw [HEnd.out] at hjz ⊢;generalize kAO (rowL x++x.dims.map kAF) ⟨#[44,32]⟩=o at *;have hos2:o.size≤100000:=by omega
        have hos:((⟨#[91]⟩:Str)++o).size≤100001:=by rw [ByteArray.size_append];show 1+o.size≤_;omega
        go_wp2_with fail
        refine bodyPost_ret (v:=.tuple #[.string ((⟨#[91]⟩++o)++⟨#[93]⟩),.int .i64 0]) (by simp [results,results84,go_sem]) rfl ?_;exact ⟨by rw [HF.out,HT.out];rfl,HW1.out.trans (hB.mono HW1.out.size)⟩
structure EnvM (w:World):Prop where
 env:Env w
 len:∃ m,w.cell? ⟨0,0,none⟩=some (.int .i64 m)
theorem EnvM.keep {w w':World} {B:Nat} (h:EnvM w) (hb:Below B w w') (h8:8≤B):EnvM w':=⟨h.env.keep hb h8,h.len.imp fun m hm=>by rw [hb.cell (by show 0<B;omega)];exact hm⟩
theorem EnvM.below {w w':World} (h:EnvM w) (hb:Below w.heap.size w w'):EnvM w':=h.keep hb h.env.big
def dotS:Str:=⟨#[46,46]⟩
def comS:Str:=⟨#[44,32]⟩
def cutP (s p:Str):Str:=⟨(Lib.trimPrefix s.data.toList p.data.toList).toArray⟩
def cutE (s p:Str):Str:=⟨(Lib.trimSuffix s.data.toList p.data.toList).toArray⟩
def hasP (s p:Str):Bool:=Lib.hasPrefix s.data.toList p.data.toList
def hasE (s p:Str):Bool:=Lib.hasSuffix s.data.toList p.data.toList
def kBU (s p:Str):List Str:=Lib.splitB p 0 (Lib.countB s p) s
def stepH (e:Bool) (k:Nat) (x:Str) (acc:Shp):Option Shp :=
 if hasE x dotS && decide (k=0) then some ⟨cutE x dotS,acc.dims⟩
 else if e then some acc
 else if kEU (kA5 (kBW x) x)=0 then some ⟨acc.row,acc.dims++[kET (kA5 (kBW x) x)]⟩ else none
def runH (e:Bool):List Str→Nat→Shp→Option Shp
 | [],_,acc=>some acc
 | x :: l,k,acc=>match stepH e k x acc with
   | none=>none
   | some acc'=>runH e l (k+1) acc'
def kB3 (s:Str):Str:=cutE (cutP s ⟨#[91]⟩) ⟨#[93]⟩
def kGB (s:Str):Option Shp :=
 if hasP s ⟨#[91]⟩ && hasE (cutP s ⟨#[91]⟩) ⟨#[93]⟩ then
  match runH (kB3 s).toList.isEmpty (kBU (kB3 s) comS) 0 ⟨⟨#[]⟩,[]⟩ with
  | none=>none
  | some x=>if kAG x && (kA3 x).toList==s.toList then some x else none
 else none
def optH (o:Option Shp):Shp:=match o with
 | none=>⟨⟨#[]⟩,[]⟩
 | some x=>x
def optE {α :Type} (o:Option α):Int:=match o with
 | none=>6
 | some _=>0
theorem getD_at {α :Type} [Inhabited α] {l:List α} {k:Nat} (h:k<l.length):l[k]? =some (l.getD k default):=by rw [List.getD_eq_getElem?_getD,List.getElem?_eq_getElem h];rfl
theorem drop_at {α :Type} [Inhabited α] {l:List α} {k:Nat} (h:k<l.length):l.drop k=l.getD k default :: l.drop (k+1):=by
 have e:=getD_at h;rw [List.getElem?_eq_getElem h] at e;rw [List.drop_eq_getElem_cons h,Option.some.inj e]
theorem runH_cons (e:Bool) (x:Str) (l:List Str) (k:Nat) (acc:Shp):runH e (x :: l) k acc=match stepH e k x acc with | none=>none | some acc'=>runH e l (k+1) acc':=rfl
theorem cutE_size (s p:Str):(cutE s p).size≤s.size:=by
 unfold cutE Lib.trimSuffix
 show (if _ then _ else _:List UInt8).toArray.size≤_
 rw [List.size_toArray]
 split
 · rw [List.length_take,Array.length_toList];exact Nat.min_le_right _ _
 · rw [Array.length_toList];exact Nat.le_refl _
theorem lossX_sz (o:Option Lin) (h:kEU o=0):kAC (kET o)=true:=by
 cases o with
 | none=>cases h
 | some x =>
   change limE x=0 at h
   show kAC (limL x)=true
   unfold limE at h;unfold limL
   split at h
   · rename_i hv;rw [if_pos hv];exact hv
   · cases h
theorem kHG {x:Lin} (h:kAC x=true):szL x:=fun t ht=>Nat.le_trans (kCP ((kA8 h).2.2.2.1 t ht)) (by decide)
theorem shape_Parse (s:Str) (hs:s.size≤1000000) (hp:∀ x ∈ kBU (kB3 s) comS,x.size≤900) (w:World) (E:EnvM w) :
 Calls Tryz.prog 86 #[.string s] w fun e w'=>(∃ ds,e= .returned (.tuple #[.agg ds.toArray,.int .i64 (optE (kGB s))])∧RShp.rd (fun k=>w.heap.size≤k) w' ds (optH (kGB s)))∧Below w.heap.size w w':=by
 have HE:=hJ E;have h8:8≤w.heap.size:=E.env.big;have HP:=hJ hp;have HR:Hid (kGB s=if hasP s ⟨#[91]⟩ && hasE (cutP s ⟨#[91]⟩) ⟨#[93]⟩ then (match runH (kB3 s).toList.isEmpty (kBU (kB3 s) comS) 0 ⟨⟨#[]⟩,[]⟩ with | none=>none | some x=>if kAG x && (kA3 x).toList==s.toList then some x else none) else none):=hJ rfl;have HC1:=fun W=>Tryz.strings_CutPrefix s ⟨#[91]⟩ W
 change ∀ W,Calls _ _ _ W fun e w'=>e= .returned (.tuple #[.string (cutP s ⟨#[91]⟩),.bool (hasP s ⟨#[91]⟩)])∧_ at HC1
 have hcz:(cutP s ⟨#[91]⟩).size≤1000000:=by
  unfold cutP Lib.trimPrefix
  show (if _ then _ else _:List UInt8).toArray.size≤_
  rw [List.size_toArray]
  split
  · rw [List.length_drop,Array.length_toList];show s.size - _≤_;omega
  · rw [Array.length_toList];exact hs
 have HC2:=fun W=>Tryz.strings_CutSuffix (cutP s ⟨#[91]⟩) ⟨#[93]⟩ W (Nat.le_trans hcz (by decide))
 change ∀ W,Calls _ _ _ W fun e w'=>e= .returned (.tuple #[.string (kB3 s),.bool (hasE (cutP s ⟨#[91]⟩) ⟨#[93]⟩)])∧_ at HC2
 have hiz:(kB3 s).size≤1000000:=by
  refine Nat.le_trans ?_ hcz;unfold kB3 cutE Lib.trimSuffix
  show (if _ then _ else _:List UInt8).toArray.size≤_
  rw [List.size_toArray]
  split
  · rw [List.length_take,Array.length_toList];exact Nat.min_le_right _ _
  · rw [Array.length_toList];exact Nat.le_refl _
 have HC1:=hJ HC1;have HC2:=hJ HC2;have hlen:(kBU (kB3 s) comS).length=Lib.countB (kB3 s) comS+1:=Lib.splitB_all comS (by decide) 0 _ _ rfl;have hcl:=Lib.countB_le comS (by decide) (kB3 s).size (kB3 s) (Nat.le_refl _);have HSp:=hJ (fun (W:World) (hW:EnvM W)=>let ⟨m,hm⟩:=hW.len;Tryz.strings_Split (kB3 s) comS m W (Nat.lt_of_le_of_lt hiz (by decide)) hm (by decide));have HSp:Hid (∀ W:World,EnvM W→Calls Tryz.prog 66 #[.string (kB3 s),.string comS] W fun e w'=>e= .returned (.slice (some ⟨W.heap.size,0,none⟩) (kBU (kB3 s) comS).length (kBU (kB3 s) comS).length)∧w'=W.alloc (.cells ((kBU (kB3 s) comS).map Value.string).toArray 9)):=hJ (by rw [hlen];exact HSp.out);have hln:(kBU (kB3 s) comS).length≤1000001:=by omega
 clear E hp hlen hcl;generalize kBU (kB3 s) comS=L at *;generalize kGB s=res at *;generalize kB3 s=inn at *;generalize hasE (cutP s ⟨#[91]⟩) ⟨#[93]⟩=ok2 at *;generalize cutP s ⟨#[91]⟩=s1 at *;generalize hasP s ⟨#[91]⟩=ok1 at *;go_enter func86,ntmps86
 go_wp2_with fail
 have HRb:=hJ (Bx.fresh w 24 [.string ⟨#[]⟩,.slice none 0 0]);refine (HC1.out _).mono ?_;rintro e W0 ⟨rfl,rfl⟩
 go_wp2_with fail
 refine (HC2.out _).mono ?_;rintro e W0 ⟨rfl,rfl⟩;by_cases hok:(ok1 && ok2)=true
 · obtain ⟨rfl,rfl⟩:ok1=true∧ok2=true:=by simpa using hok
   have HE1:=hJ (HE.out.below (((Below.refl _ _).alloc (Nat.le_refl _) (.cells #[.string ⟨#[]⟩,.slice none 0 0] 24)).alloc (by simp) (.cells #[.string ⟨#[]⟩,.slice none 0 0] 24)));have HR2:Hid (res=match runH inn.toList.isEmpty L 0 ⟨⟨#[]⟩,[]⟩ with | none=>none | some x=>if kAG x && (kA3 x).toList==s.toList then some x else none):=hJ HR.out;clear HR hok
   go_wp2_with fail
   refine (HSp.out _ HE1.out).mono ?_;rintro e W0 ⟨rfl,rfl⟩;have HRs:=hJ ((HRb.out.alloc (.cells #[.string ⟨#[]⟩,.slice none 0 0] 24)).alloc (.cells (L.map Value.string).toArray 9));have HOs:=hJ ((Bx.fresh (w.alloc (.cells #[.string ⟨#[]⟩,.slice none 0 0] 24)) 24 [.string ⟨#[]⟩,.slice none 0 0]).alloc (.cells (L.map Value.string).toArray 9));have HPs:=hJ (Bx.fresh ((w.alloc (.cells #[.string ⟨#[]⟩,.slice none 0 0] 24)).alloc (.cells #[.string ⟨#[]⟩,.slice none 0 0] 24)) 9 (L.map Value.string));have e1:(w.alloc (.cells #[.string ⟨#[]⟩,.slice none 0 0] 24)).heap.size=w.heap.size+1:=by simp
   have e2:((w.alloc (.cells #[.string ⟨#[]⟩,.slice none 0 0] 24)).alloc (.cells #[.string ⟨#[]⟩,.slice none 0 0] 24)).heap.size=w.heap.size+1+1:=by simp
   have HBl:=hJ ((((Below.refl _ w).alloc (Nat.le_refl _) (.cells #[.string ⟨#[]⟩,.slice none 0 0] 24)).alloc (by simp) (.cells #[.string ⟨#[]⟩,.slice none 0 0] 24)).alloc (by rw [e2];omega) (.cells (L.map Value.string).toArray 9));rw [e1] at HOs;rw [e2] at HPs;have hsz:(((w.alloc (.cells #[.string ⟨#[]⟩,.slice none 0 0] 24)).alloc (.cells #[.string ⟨#[]⟩,.slice none 0 0] 24)).alloc (.cells (L.map Value.string).toArray 9)).heap.size=w.heap.size+1+1+1:=by simp
   clear HE1 HRb HSp HC1 HC2
   go_wp2_with fail
   try rw [e2]
   clear e1 e2;generalize ((w.alloc (.cells #[.string ⟨#[]⟩,.slice none 0 0] 24)).alloc (.cells #[.string ⟨#[]⟩,.slice none 0 0] 24)).alloc (.cells (L.map Value.string).toArray 9)=W at *;have HEw:=hJ HE.out.env;have HTot:Hid (runH inn.toList.isEmpty L 0 ⟨⟨#[]⟩,[]⟩=runH inn.toList.isEmpty L 0 ⟨⟨#[]⟩,[]⟩):=hJ rfl;have HTot2:∃ tot,tot=runH inn.toList.isEmpty L 0 ⟨⟨#[]⟩,[]⟩:=⟨_,rfl⟩
   obtain ⟨tot,hto⟩:=HTot2;rw [← hto] at HR2;have HTo:=hJ hto.symm;clear hto HTot HSp HC1 HC2
   go_loopw [34] (fun i wr=>∃ (k:Nat) (acc:Shp),k≤L.length∧i= .int .i64 k∧acc.dims.length≤k∧acc.row.size≤900∧Hid (∀ d ∈ acc.dims,kAC d=true)∧Hid (runH inn.toList.isEmpty (L.drop k) k acc=tot)∧Hid (∃ v,Bx wr (w.heap.size+1) 24 [.string acc.row,v]∧Own RLin 45 (fun q=>w.heap.size+1+1<q) wr (w.heap.size+3) v acc.dims)∧Hid (Bx wr w.heap.size 24 [.string ⟨#[]⟩,.slice none 0 0])∧Hid (Bx wr (w.heap.size+1+1) 9 (L.map Value.string))∧Hid (Below w.heap.size w wr)) (fun i _=>L.length - (intOf i).toNat)
   case atStart=>exact ⟨0,⟨⟨#[]⟩,[]⟩,Nat.zero_le _,rfl,Nat.le_refl _,by decide,hJ (fun d hd=>by cases hd),HTo,hJ ⟨_,HOs.out,Own.nil _ _ _ _ _⟩,HRs,HPs,HBl⟩
   case round =>
    clear HRs HOs HPs HBl;obtain ⟨k,acc,hk,rfl,hdl,hrz,HV,HRun,HO,HRs,HPs,HBl⟩:=hrel;have hws:w.heap.size+1+1<wr.heap.size:=HPs.out.lt;by_cases hlt:k<L.length
    · obtain ⟨v,hbx,hown⟩:=HO.out
      have HBX:=hJ hbx;have HOwn:=hJ hown;obtain ⟨va,vm,vc,rfl⟩:=hown.shape;clear HO hbx hown;have HDr:Hid (L.drop k=L.getD k default :: L.drop (k+1)):=hJ (drop_at hlt);have hxz:=HP.out _ (kAJ hlt);have y0:wr.cell? ⟨w.heap.size+1+1,k,none⟩=some (.string (L.getD k default)):=HPs.out.cell k _ (by rw [List.getElem?_map,getD_at hlt];rfl);have HRun:Hid ((match stepH inn.toList.isEmpty k (L.getD k default) acc with | none=>none | some acc'=>runH inn.toList.isEmpty (L.drop (k+1)) (k+1) acc')=tot):=hJ (by rw [← HRun.out,HDr.out,runH_cons]);clear HDr;generalize L.getD k default=x at *;have HC:=fun W=>Tryz.strings_CutSuffix x ⟨#[46,46]⟩ W (by omega)
      change ∀ W,Calls _ _ _ W fun e w'=>e= .returned (.tuple #[.string (cutE x dotS),.bool (hasE x dotS)])∧_ at HC
      have HC:=hJ HC
      go_wp2_with fail
      refine (HC.out _).mono ?_;rintro e W1 ⟨rfl,hW⟩;subst hW;by_cases hc:(hasE x dotS && decide (k=0))=true
      · obtain ⟨hb,hk0⟩:hasE x dotS=true∧k=0:=by simpa using hc
        subst hk0;rw [hb];have HStep:Hid (stepH inn.toList.isEmpty 0 x acc=some ⟨cutE x dotS,acc.dims⟩):=hJ (by unfold stepH;rw [if_pos (by rw [hb];rfl)]);have z0:=HBX.out.cell 0 _ rfl;have f0:=HBX.out.fz 0;have hcz2:=cutE_size x dotS
        go_wp2_with fail
        go_roundw
        case rel=>exact ⟨0+1,⟨cutE x dotS,acc.dims⟩,by omega,by go_num,by show acc.dims.length≤_;omega,by show (cutE x dotS).size≤_;omega,HV,hJ (by have q:=HRun.out;rw [HStep.out] at q;exact q),hJ ⟨_,HBX.out.set 0 _,HOwn.out.set _ (fun q hq=>by show q≠w.heap.size+1;omega) (by show w.heap.size+1<_;omega)⟩,hJ (HRs.out.other (by show w.heap.size+1≠_;omega)),hJ (HPs.out.other (by show w.heap.size+1≠_;omega)),hJ (HBl.out.setCell (by show _≤w.heap.size+1;omega) _)⟩
        case measure=>simp [intOf];omega
      · have hnc:hasE x dotS=false∨¬ ((k:Int)=0):=by
         cases hb:hasE x dotS with
         | false=>exact .inl rfl
         | true=>exact .inr (fun e=>hc (by rw [hb];simp;omega))
        have HStep:Hid (stepH inn.toList.isEmpty k x acc=if inn.toList.isEmpty then some acc else if kEU (kA5 (kBW x) x)=0 then some ⟨acc.row,acc.dims++[kET (kA5 (kBW x) x)]⟩ else none):=hJ (by unfold stepH;rw [if_neg hc]);have HC2:=hJ (linear_Parse x hxz W1 (HEw.out.keep HBl.out h8));have HVl:=hJ (lossX_sz (kA5 (kBW x) x));generalize kEU (kA5 (kBW x) x)=er at *;generalize kET (kA5 (kBW x) x)=y at *;clear hc;rcases hnc with hb | hk0
        · rw [hb]
          go_wp2_with fail
          refine HC2.out.mono ?_;rintro e w4 ⟨⟨ds,rfl,ty,rfl,ay,cy,rfl,hy⟩,hb4⟩;have HT:=hJ (Bx.fresh w4 45 [.int .i64 y.const,.slice ay y.terms.length cy]);have t0:=HT.out.cell 0 _ rfl;have t1:=HT.out.cell 1 _ rfl;have hz4:=hb4.size;have HY:Hid (Sl kBE (fun k=>W1.heap.size≤k) (w4.alloc (.cells #[.int .i64 y.const,.slice ay y.terms.length cy] 45)) ay y.terms.length cy y.terms):=hJ (hy.below ((Below.refl _ _).alloc (Nat.le_refl _) _));have HB5:Hid (Below W1.heap.size W1 (w4.alloc (.cells #[.int .i64 y.const,.slice ay y.terms.length cy] 45))):=hJ (hb4.alloc hz4 _);have HOld:=HOwn;replace HBX:=hJ (HBX.out.below HB5.out HBX.out.lt);replace HOwn:=hJ (HOwn.out.below HB5.out);replace HPs:=hJ (HPs.out.below HB5.out HPs.out.lt);replace HRs:=hJ (HRs.out.below HB5.out HRs.out.lt);replace HBl:=hJ (HBl.out.trans (HB5.out.mono HBl.out.size));have v0:=HBX.out.cell 0 _ rfl;have v1:=HBX.out.cell 1 _ rfl;have fv1:=HBX.out.fz 1;clear hb4 hy HC2 HC y0;cases hi:inn.toList.isEmpty with
          | true =>
            rw [hi] at HStep HRun;have HNx:Hid (runH true (L.drop (k+1)) (k+1) acc=tot):=hJ (by have q:=HRun.out;rw [HStep.out] at q;exact q);clear HStep HRun;by_cases her:er=0
            · subst her
              go_wp2_with fail
              go_roundw
              case rel=>exact ⟨k+1,acc,by omega,by go_num,by omega,hrz,HV,by rw [hi];exact HNx,hJ ⟨_,HBX.out,HOwn.out⟩,HRs,HPs,HBl⟩
              case measure=>simp [intOf];omega
            · go_wp2_with fail
              go_roundw
              case rel=>exact ⟨k+1,acc,by omega,by go_num,by omega,hrz,HV,by rw [hi];exact HNx,hJ ⟨_,HBX.out,HOwn.out⟩,HRs,HPs,HBl⟩
              case measure=>simp [intOf];omega
          | false =>
            rw [hi] at HStep HRun;by_cases her:er=0
            · subst her
              have HNx:Hid (runH false (L.drop (k+1)) (k+1) ⟨acc.row,acc.dims++[y]⟩=tot):=hJ (by have q:=HRun.out;rw [HStep.out] at q;exact q);have hvy:Hid (kAC y=true):=hJ (HVl.out rfl);clear HStep HRun HVl
              go_wp2_with (at_builtin;refine kAZ kCA rfl _ _ rfl (w.heap.size+3) _ _ rfl (HOwn.out.alloc _) _ y [.int .i64 y.const,.slice ay y.terms.length cy] rfl ⟨_,rfl,ay,cy,rfl,(HY.out.below ((Below.refl _ _).alloc (Nat.le_refl _) _)).mono (fun q hq _=>⟨by omega,fun e=>by have:=(HOld.out.block e).2;omega⟩)⟩ (kA2 45 (by (simp only [kAL,kAH,Array.getElem?_push,Array.size_push];simp))) (by omega) (by unfold maxLen;omega) (by simp;omega) ?_;intro v9 w9 hown9 hb9 hk9;obtain ⟨a9,m9,c9,rfl⟩:=hown9.shape;have HX9:=hJ ((HBX.out.alloc _).kp hk9 (HOwn.out.ne (by omega)));have HP9:=hJ ((HPs.out.alloc _).kp hk9 (HOwn.out.ne (by omega)));have HR9:=hJ ((HRs.out.alloc _).kp hk9 (HOwn.out.ne (by omega)));have z9:=HX9.out.cell 1 _ rfl;have f9:=HX9.out.fz 1)
              go_roundw
              case rel=>exact ⟨k+1,⟨acc.row,acc.dims++[y]⟩,by omega,by go_num,by rw [List.length_append];show acc.dims.length+1≤_;omega,hrz,hJ (fun d hd=>(List.mem_append.mp hd).elim (HV.out d) (fun q=>by rw [List.mem_singleton.mp q];exact hvy.out)),by rw [hi];exact HNx,hJ ⟨_,HX9.out.set 1 _,hown9.set _ (fun q hq=>by show q≠w.heap.size+1;omega) (by show w.heap.size+1<_;omega)⟩,hJ (HR9.out.other (by show w.heap.size+1≠_;omega)),hJ (HP9.out.other (by show w.heap.size+1≠_;omega)),hJ (((HBl.out.alloc HBl.out.size _).trans (hb9.mono (by omega))).setCell (by show _≤w.heap.size+1;omega) _)⟩
              case measure=>simp [intOf];omega
            · have HF:Hid (res=none):=hJ (by have q:=HRun.out;rw [HStep.out,if_neg (by decide),if_neg her] at q;rw [HR2.out,← q])
              clear HStep HRun;have z0:=HRs.out.cell 0 _ rfl;have z1:=HRs.out.cell 1 _ rfl;have f0:=HRs.out.fz 0;have f1:=HRs.out.fz 1;have hl0:=HRs.out.lt;have HZz:=hJ ((HRs.out.set 0 (.string ⟨#[]⟩)).set 1 (.slice none 0 0));have s0:=HZz.out.cell 0 _ rfl;have s1:=HZz.out.cell 1 _ rfl
              go_wp2_with fail
              refine bodyPost_ret (v:=.tuple #[.agg #[.string ⟨#[]⟩,.slice none 0 0],.int .i64 6]) (by simp [results,results86,go_sem,s0,s1,hl0]) rfl ?_;have HFr:Hid (∀ W,RShp.rd (fun k=>w.heap.size≤k) W [.string ⟨#[]⟩,.slice none 0 0] (optH res)):=hJ (fun W=>by rw [HF.out];exact ⟨_,rfl,none,0,rfl,Sl.empty RLin _ _⟩)
              first
               | exact ⟨⟨_,by rw [HF.out];rfl,HFr.out _⟩,HBl.out⟩
               | exact ⟨⟨_,by rw [HF.out];rfl,HFr.out _⟩,(HBl.out.setCell (Nat.le_refl _) _).setCell (Nat.le_refl _) _⟩
        · cases hasE x dotS with
          | false =>
            go_wp2_with fail
            refine HC2.out.mono ?_;rintro e w4 ⟨⟨ds,rfl,ty,rfl,ay,cy,rfl,hy⟩,hb4⟩;have HT:=hJ (Bx.fresh w4 45 [.int .i64 y.const,.slice ay y.terms.length cy]);have t0:=HT.out.cell 0 _ rfl;have t1:=HT.out.cell 1 _ rfl;have hz4:=hb4.size;have HY:Hid (Sl kBE (fun k=>W1.heap.size≤k) (w4.alloc (.cells #[.int .i64 y.const,.slice ay y.terms.length cy] 45)) ay y.terms.length cy y.terms):=hJ (hy.below ((Below.refl _ _).alloc (Nat.le_refl _) _));have HB5:Hid (Below W1.heap.size W1 (w4.alloc (.cells #[.int .i64 y.const,.slice ay y.terms.length cy] 45))):=hJ (hb4.alloc hz4 _);have HOld:=HOwn;replace HBX:=hJ (HBX.out.below HB5.out HBX.out.lt);replace HOwn:=hJ (HOwn.out.below HB5.out);replace HPs:=hJ (HPs.out.below HB5.out HPs.out.lt);replace HRs:=hJ (HRs.out.below HB5.out HRs.out.lt);replace HBl:=hJ (HBl.out.trans (HB5.out.mono HBl.out.size));have v0:=HBX.out.cell 0 _ rfl;have v1:=HBX.out.cell 1 _ rfl;have fv1:=HBX.out.fz 1;clear hb4 hy HC2 HC y0;cases hi:inn.toList.isEmpty with
            | true =>
              rw [hi] at HStep HRun;have HNx:Hid (runH true (L.drop (k+1)) (k+1) acc=tot):=hJ (by have q:=HRun.out;rw [HStep.out] at q;exact q);clear HStep HRun;by_cases her:er=0
              · subst her
                go_wp2_with fail
                go_roundw
                case rel=>exact ⟨k+1,acc,by omega,by go_num,by omega,hrz,HV,by rw [hi];exact HNx,hJ ⟨_,HBX.out,HOwn.out⟩,HRs,HPs,HBl⟩
                case measure=>simp [intOf];omega
              · go_wp2_with fail
                go_roundw
                case rel=>exact ⟨k+1,acc,by omega,by go_num,by omega,hrz,HV,by rw [hi];exact HNx,hJ ⟨_,HBX.out,HOwn.out⟩,HRs,HPs,HBl⟩
                case measure=>simp [intOf];omega
            | false =>
              rw [hi] at HStep HRun;by_cases her:er=0
              · subst her
                have HNx:Hid (runH false (L.drop (k+1)) (k+1) ⟨acc.row,acc.dims++[y]⟩=tot):=hJ (by have q:=HRun.out;rw [HStep.out] at q;exact q);have hvy:Hid (kAC y=true):=hJ (HVl.out rfl);clear HStep HRun HVl
                go_wp2_with (at_builtin;refine kAZ kCA rfl _ _ rfl (w.heap.size+3) _ _ rfl (HOwn.out.alloc _) _ y [.int .i64 y.const,.slice ay y.terms.length cy] rfl ⟨_,rfl,ay,cy,rfl,(HY.out.below ((Below.refl _ _).alloc (Nat.le_refl _) _)).mono (fun q hq _=>⟨by omega,fun e=>by have:=(HOld.out.block e).2;omega⟩)⟩ (kA2 45 (by (simp only [kAL,kAH,Array.getElem?_push,Array.size_push];simp))) (by omega) (by unfold maxLen;omega) (by simp;omega) ?_;intro v9 w9 hown9 hb9 hk9;obtain ⟨a9,m9,c9,rfl⟩:=hown9.shape;have HX9:=hJ ((HBX.out.alloc _).kp hk9 (HOwn.out.ne (by omega)));have HP9:=hJ ((HPs.out.alloc _).kp hk9 (HOwn.out.ne (by omega)));have HR9:=hJ ((HRs.out.alloc _).kp hk9 (HOwn.out.ne (by omega)));have z9:=HX9.out.cell 1 _ rfl;have f9:=HX9.out.fz 1)
                go_roundw
                case rel=>exact ⟨k+1,⟨acc.row,acc.dims++[y]⟩,by omega,by go_num,by rw [List.length_append];show acc.dims.length+1≤_;omega,hrz,hJ (fun d hd=>(List.mem_append.mp hd).elim (HV.out d) (fun q=>by rw [List.mem_singleton.mp q];exact hvy.out)),by rw [hi];exact HNx,hJ ⟨_,HX9.out.set 1 _,hown9.set _ (fun q hq=>by show q≠w.heap.size+1;omega) (by show w.heap.size+1<_;omega)⟩,hJ (HR9.out.other (by show w.heap.size+1≠_;omega)),hJ (HP9.out.other (by show w.heap.size+1≠_;omega)),hJ (((HBl.out.alloc HBl.out.size _).trans (hb9.mono (by omega))).setCell (by show _≤w.heap.size+1;omega) _)⟩
                case measure=>simp [intOf];omega
              · have HF:Hid (res=none):=hJ (by have q:=HRun.out;rw [HStep.out,if_neg (by decide),if_neg her] at q;rw [HR2.out,← q])
                clear HStep HRun;have z0:=HRs.out.cell 0 _ rfl;have z1:=HRs.out.cell 1 _ rfl;have f0:=HRs.out.fz 0;have f1:=HRs.out.fz 1;have hl0:=HRs.out.lt;have HZz:=hJ ((HRs.out.set 0 (.string ⟨#[]⟩)).set 1 (.slice none 0 0));have s0:=HZz.out.cell 0 _ rfl;have s1:=HZz.out.cell 1 _ rfl
                go_wp2_with fail
                refine bodyPost_ret (v:=.tuple #[.agg #[.string ⟨#[]⟩,.slice none 0 0],.int .i64 6]) (by simp [results,results86,go_sem,s0,s1,hl0]) rfl ?_;have HFr:Hid (∀ W,RShp.rd (fun k=>w.heap.size≤k) W [.string ⟨#[]⟩,.slice none 0 0] (optH res)):=hJ (fun W=>by rw [HF.out];exact ⟨_,rfl,none,0,rfl,Sl.empty RLin _ _⟩)
                first
                 | exact ⟨⟨_,by rw [HF.out];rfl,HFr.out _⟩,HBl.out⟩
                 | exact ⟨⟨_,by rw [HF.out];rfl,HFr.out _⟩,(HBl.out.setCell (Nat.le_refl _) _).setCell (Nat.le_refl _) _⟩
          | true =>
            go_wp2_with fail
            refine HC2.out.mono ?_;rintro e w4 ⟨⟨ds,rfl,ty,rfl,ay,cy,rfl,hy⟩,hb4⟩;have HT:=hJ (Bx.fresh w4 45 [.int .i64 y.const,.slice ay y.terms.length cy]);have t0:=HT.out.cell 0 _ rfl;have t1:=HT.out.cell 1 _ rfl;have hz4:=hb4.size;have HY:Hid (Sl kBE (fun k=>W1.heap.size≤k) (w4.alloc (.cells #[.int .i64 y.const,.slice ay y.terms.length cy] 45)) ay y.terms.length cy y.terms):=hJ (hy.below ((Below.refl _ _).alloc (Nat.le_refl _) _));have HB5:Hid (Below W1.heap.size W1 (w4.alloc (.cells #[.int .i64 y.const,.slice ay y.terms.length cy] 45))):=hJ (hb4.alloc hz4 _);have HOld:=HOwn;replace HBX:=hJ (HBX.out.below HB5.out HBX.out.lt);replace HOwn:=hJ (HOwn.out.below HB5.out);replace HPs:=hJ (HPs.out.below HB5.out HPs.out.lt);replace HRs:=hJ (HRs.out.below HB5.out HRs.out.lt);replace HBl:=hJ (HBl.out.trans (HB5.out.mono HBl.out.size));have v0:=HBX.out.cell 0 _ rfl;have v1:=HBX.out.cell 1 _ rfl;have fv1:=HBX.out.fz 1;clear hb4 hy HC2 HC y0;cases hi:inn.toList.isEmpty with
            | true =>
              rw [hi] at HStep HRun;have HNx:Hid (runH true (L.drop (k+1)) (k+1) acc=tot):=hJ (by have q:=HRun.out;rw [HStep.out] at q;exact q);clear HStep HRun;by_cases her:er=0
              · subst her
                go_wp2_with fail
                go_roundw
                case rel=>exact ⟨k+1,acc,by omega,by go_num,by omega,hrz,HV,by rw [hi];exact HNx,hJ ⟨_,HBX.out,HOwn.out⟩,HRs,HPs,HBl⟩
                case measure=>simp [intOf];omega
              · go_wp2_with fail
                go_roundw
                case rel=>exact ⟨k+1,acc,by omega,by go_num,by omega,hrz,HV,by rw [hi];exact HNx,hJ ⟨_,HBX.out,HOwn.out⟩,HRs,HPs,HBl⟩
                case measure=>simp [intOf];omega
            | false =>
              rw [hi] at HStep HRun;by_cases her:er=0
              · subst her
                have HNx:Hid (runH false (L.drop (k+1)) (k+1) ⟨acc.row,acc.dims++[y]⟩=tot):=hJ (by have q:=HRun.out;rw [HStep.out] at q;exact q);have hvy:Hid (kAC y=true):=hJ (HVl.out rfl);clear HStep HRun HVl
                go_wp2_with (at_builtin;refine kAZ kCA rfl _ _ rfl (w.heap.size+3) _ _ rfl (HOwn.out.alloc _) _ y [.int .i64 y.const,.slice ay y.terms.length cy] rfl ⟨_,rfl,ay,cy,rfl,(HY.out.below ((Below.refl _ _).alloc (Nat.le_refl _) _)).mono (fun q hq _=>⟨by omega,fun e=>by have:=(HOld.out.block e).2;omega⟩)⟩ (kA2 45 (by (simp only [kAL,kAH,Array.getElem?_push,Array.size_push];simp))) (by omega) (by unfold maxLen;omega) (by simp;omega) ?_;intro v9 w9 hown9 hb9 hk9;obtain ⟨a9,m9,c9,rfl⟩:=hown9.shape;have HX9:=hJ ((HBX.out.alloc _).kp hk9 (HOwn.out.ne (by omega)));have HP9:=hJ ((HPs.out.alloc _).kp hk9 (HOwn.out.ne (by omega)));have HR9:=hJ ((HRs.out.alloc _).kp hk9 (HOwn.out.ne (by omega)));have z9:=HX9.out.cell 1 _ rfl;have f9:=HX9.out.fz 1)
                go_roundw
                case rel=>exact ⟨k+1,⟨acc.row,acc.dims++[y]⟩,by omega,by go_num,by rw [List.length_append];show acc.dims.length+1≤_;omega,hrz,hJ (fun d hd=>(List.mem_append.mp hd).elim (HV.out d) (fun q=>by rw [List.mem_singleton.mp q];exact hvy.out)),by rw [hi];exact HNx,hJ ⟨_,HX9.out.set 1 _,hown9.set _ (fun q hq=>by show q≠w.heap.size+1;omega) (by show w.heap.size+1<_;omega)⟩,hJ (HR9.out.other (by show w.heap.size+1≠_;omega)),hJ (HP9.out.other (by show w.heap.size+1≠_;omega)),hJ (((HBl.out.alloc HBl.out.size _).trans (hb9.mono (by omega))).setCell (by show _≤w.heap.size+1;omega) _)⟩
                case measure=>simp [intOf];omega
              · have HF:Hid (res=none):=hJ (by have q:=HRun.out;rw [HStep.out,if_neg (by decide),if_neg her] at q;rw [HR2.out,← q])
                clear HStep HRun;have z0:=HRs.out.cell 0 _ rfl;have z1:=HRs.out.cell 1 _ rfl;have f0:=HRs.out.fz 0;have f1:=HRs.out.fz 1;have hl0:=HRs.out.lt;have HZz:=hJ ((HRs.out.set 0 (.string ⟨#[]⟩)).set 1 (.slice none 0 0));have s0:=HZz.out.cell 0 _ rfl;have s1:=HZz.out.cell 1 _ rfl
                go_wp2_with fail
                refine bodyPost_ret (v:=.tuple #[.agg #[.string ⟨#[]⟩,.slice none 0 0],.int .i64 6]) (by simp [results,results86,go_sem,s0,s1,hl0]) rfl ?_;have HFr:Hid (∀ W,RShp.rd (fun k=>w.heap.size≤k) W [.string ⟨#[]⟩,.slice none 0 0] (optH res)):=hJ (fun W=>by rw [HF.out];exact ⟨_,rfl,none,0,rfl,Sl.empty RLin _ _⟩)
                first
                 | exact ⟨⟨_,by rw [HF.out];rfl,HFr.out _⟩,HBl.out⟩
                 | exact ⟨⟨_,by rw [HF.out];rfl,HFr.out _⟩,(HBl.out.setCell (Nat.le_refl _) _).setCell (Nat.le_refl _) _⟩
    · have hke:k=L.length:=by omega
      have HTot:Hid (tot=some acc):=hJ (by rw [← HRun.out,List.drop_of_length_le (by omega)];rfl);have HR3:Hid (res=if kAG acc && (kA3 acc).toList==s.toList then some acc else none):=hJ (by rw [HR2.out,HTot.out]);obtain ⟨v,hbx,hown⟩:=HO.out;have HBX:=hJ hbx;obtain ⟨va,vc,rfl,hsl⟩:=hown.sl;have hz:szH acc:=⟨by omega,fun d hd=>kHG (HV.out d hd)⟩
      have HRd:Hid (RShp.rd (fun q=>w.heap.size+1<q) wr [.string acc.row,.slice va acc.dims.length vc] acc):=hJ ⟨_,rfl,va,vc,rfl,hsl.mono (fun q hq _=>by rcases hq with q | q <;> omega)⟩;have HEr:=hJ (HEw.out.keep HBl.out h8);have HCv:=hJ (kD2 HRd.out hz HEr.out);have HCx:=hJ (fun (hv:kAG acc=true) (W':World) (hW:Below wr.heap.size wr W')=>shape_text (RShp.below HRd.out hW) hz (kF5 hv).2.1 (HEr.out.below hW));have v0:=HBX.out.cell 0 _ rfl;have v1:=HBX.out.cell 1 _ rfl;clear HO hbx hown HRun HR2 HTot HTo hsl HPs hke hdl;generalize acc.dims.length=vm at *;cases hv:kAG acc with
      | false =>
        have HF:Hid (res=none):=hJ (by rw [HR3.out,hv];rfl);rw [hv] at HCv;clear HCx HR3 HRd
        go_wp2_with fail
        refine (HCv.out).mono ?_;rintro e w1 ⟨rfl,hb⟩;replace HRs:=hJ (HRs.out.below hb HRs.out.lt);replace HBl:=hJ (HBl.out.trans (hb.mono HBl.out.size));have z0:=HRs.out.cell 0 _ rfl;have z1:=HRs.out.cell 1 _ rfl;have f0:=HRs.out.fz 0;have f1:=HRs.out.fz 1;have hl0:=HRs.out.lt;have HZz:=hJ ((HRs.out.set 0 (.string ⟨#[]⟩)).set 1 (.slice none 0 0));have s0:=HZz.out.cell 0 _ rfl;have s1:=HZz.out.cell 1 _ rfl
        go_wp2_with fail
        refine bodyPost_ret (v:=.tuple #[.agg #[.string ⟨#[]⟩,.slice none 0 0],.int .i64 6]) (by simp [results,results86,go_sem,s0,s1,hl0]) rfl ?_;have HFr:Hid (∀ W,RShp.rd (fun k=>w.heap.size≤k) W [.string ⟨#[]⟩,.slice none 0 0] (optH res)):=hJ (fun W=>by rw [HF.out];exact ⟨_,rfl,none,0,rfl,Sl.empty RLin _ _⟩)
        first
         | exact ⟨⟨_,by rw [HF.out];rfl,HFr.out _⟩,HBl.out⟩
         | exact ⟨⟨_,by rw [HF.out];rfl,HFr.out _⟩,(HBl.out.setCell (Nat.le_refl _) _).setCell (Nat.le_refl _) _⟩
      | true =>
        rw [hv] at HCv HR3
        go_wp2_with fail
        refine (HCv.out).mono ?_;rintro e w1 ⟨rfl,hb⟩;have HC2:=hJ (HCx.out hv _ hb);have HB1:=hJ hb;replace v0:=(hb.cell (by show w.heap.size+1<_;omega)).trans v0;replace v1:=(hb.cell (by show w.heap.size+1<_;omega)).trans v1;clear HCv HCx
        go_wp2_with fail
        refine (HC2.out).mono ?_;rintro e w2 ⟨rfl,hb2⟩;have HB2:=hJ (HB1.out.trans (hb2.mono HB1.out.size));replace v0:=(hb2.cell (by have:=HB1.out.size;show w.heap.size+1<_;omega)).trans v0;replace v1:=(hb2.cell (by have:=HB1.out.size;show w.heap.size+1<_;omega)).trans v1;replace HRs:=hJ (HRs.out.below HB2.out HRs.out.lt);replace HBl:=hJ (HBl.out.trans (HB2.out.mono HBl.out.size));generalize kA3 acc=o at *;cases ho:(o.toList==s.toList) with
        | false =>
          have HF:Hid (res=none):=hJ (by rw [HR3.out,ho];rfl);have z0:=HRs.out.cell 0 _ rfl;have z1:=HRs.out.cell 1 _ rfl;have f0:=HRs.out.fz 0;have f1:=HRs.out.fz 1;have hl0:=HRs.out.lt;have HZz:=hJ ((HRs.out.set 0 (.string ⟨#[]⟩)).set 1 (.slice none 0 0));have s0:=HZz.out.cell 0 _ rfl;have s1:=HZz.out.cell 1 _ rfl
          go_wp2_with fail
          refine bodyPost_ret (v:=.tuple #[.agg #[.string ⟨#[]⟩,.slice none 0 0],.int .i64 6]) (by simp [results,results86,go_sem,s0,s1,hl0]) rfl ?_;have HFr:Hid (∀ W,RShp.rd (fun k=>w.heap.size≤k) W [.string ⟨#[]⟩,.slice none 0 0] (optH res)):=hJ (fun W=>by rw [HF.out];exact ⟨_,rfl,none,0,rfl,Sl.empty RLin _ _⟩)
          first
           | exact ⟨⟨_,by rw [HF.out];rfl,HFr.out _⟩,HBl.out⟩
           | exact ⟨⟨_,by rw [HF.out];rfl,HFr.out _⟩,(HBl.out.setCell (Nat.le_refl _) _).setCell (Nat.le_refl _) _⟩
        | true =>
          have HF:Hid (res=some acc):=hJ (by rw [HR3.out,ho];rfl);have z0:=HRs.out.cell 0 _ rfl;have z1:=HRs.out.cell 1 _ rfl;have f0:=HRs.out.fz 0;have f1:=HRs.out.fz 1;have hl0:=HRs.out.lt
          go_wp2_with fail
          have HZz:=hJ ((HRs.out.set 0 (.string acc.row)).set 1 (.slice va vm vc));have s0:=HZz.out.cell 0 _ rfl;have s1:=HZz.out.cell 1 _ rfl;refine bodyPost_ret (v:=.tuple #[.agg #[.string acc.row,.slice va vm vc],.int .i64 0]) (by simp [results,results86,go_sem,s0,s1,hl0]) rfl ?_;exact ⟨⟨_,by rw [HF.out];rfl,by rw [HF.out];exact RShp.mono (RShp.frame (RShp.frame (RShp.below HRd.out HB2.out) (fun q hq _=>kAB (a:=⟨w.heap.size,0,none⟩) (by show w.heap.size≠q;omega))) (fun q hq _=>kAB (a:=⟨w.heap.size,1,none⟩) (by show w.heap.size≠q;omega))) (fun q hq _=>by show w.heap.size≤q;omega)⟩,(HBl.out.setCell (Nat.le_refl _) _).setCell (Nat.le_refl _) _⟩
 · have HF:Hid (res=none):=hJ (by rw [HR.out];rw [if_neg hok])
   have HRs:=HRb;have HBl:=hJ ((Below.refl _ w).alloc (Nat.le_refl _) (.cells #[.string ⟨#[]⟩,.slice none 0 0] 24));clear HR HRb HSp HC1 HC2;cases ok1 with
   | false =>
     clear hok;have z0:=HRs.out.cell 0 _ rfl;have z1:=HRs.out.cell 1 _ rfl;have f0:=HRs.out.fz 0;have f1:=HRs.out.fz 1;have hl0:=HRs.out.lt;have HZz:=hJ ((HRs.out.set 0 (.string ⟨#[]⟩)).set 1 (.slice none 0 0));have s0:=HZz.out.cell 0 _ rfl;have s1:=HZz.out.cell 1 _ rfl
     go_wp2_with fail
     refine bodyPost_ret (v:=.tuple #[.agg #[.string ⟨#[]⟩,.slice none 0 0],.int .i64 6]) (by simp [results,results86,go_sem,s0,s1,hl0]) rfl ?_;have HFr:Hid (∀ W,RShp.rd (fun k=>w.heap.size≤k) W [.string ⟨#[]⟩,.slice none 0 0] (optH res)):=hJ (fun W=>by rw [HF.out];exact ⟨_,rfl,none,0,rfl,Sl.empty RLin _ _⟩)
     first
      | exact ⟨⟨_,by rw [HF.out];rfl,HFr.out _⟩,HBl.out⟩
      | exact ⟨⟨_,by rw [HF.out];rfl,HFr.out _⟩,(HBl.out.setCell (Nat.le_refl _) _).setCell (Nat.le_refl _) _⟩
   | true =>
     cases ok2 with
     | false =>
       clear hok;have z0:=HRs.out.cell 0 _ rfl;have z1:=HRs.out.cell 1 _ rfl;have f0:=HRs.out.fz 0;have f1:=HRs.out.fz 1;have hl0:=HRs.out.lt;have HZz:=hJ ((HRs.out.set 0 (.string ⟨#[]⟩)).set 1 (.slice none 0 0));have s0:=HZz.out.cell 0 _ rfl;have s1:=HZz.out.cell 1 _ rfl
       go_wp2_with fail
       refine bodyPost_ret (v:=.tuple #[.agg #[.string ⟨#[]⟩,.slice none 0 0],.int .i64 6]) (by simp [results,results86,go_sem,s0,s1,hl0]) rfl ?_;have HFr:Hid (∀ W,RShp.rd (fun k=>w.heap.size≤k) W [.string ⟨#[]⟩,.slice none 0 0] (optH res)):=hJ (fun W=>by rw [HF.out];exact ⟨_,rfl,none,0,rfl,Sl.empty RLin _ _⟩)
       first
        | exact ⟨⟨_,by rw [HF.out];rfl,HFr.out _⟩,HBl.out⟩
        | exact ⟨⟨_,by rw [HF.out];rfl,HFr.out _⟩,(HBl.out.setCell (Nat.le_refl _) _).setCell (Nat.le_refl _) _⟩
     | true=>exact absurd rfl hok
def AllB (P:Int→Bool) (a:Str):Prop:=∀ c ∈ a.data.toList,P (c.toNat:Int)=true
theorem AllB.nil {P:Int→Bool}:AllB P ⟨#[]⟩:=fun c h=>by cases h
theorem AllB.app {P:Int→Bool} {a b:Str} (h1:AllB P a) (h2:AllB P b):AllB P (a++b):=fun c h=>by
 rw [ByteArray.data_append,Array.toList_append] at h;exact (List.mem_append.1 h).elim (h1 c) (h2 c)
theorem AllB.left {P:Int→Bool} {a b:Str} (h:AllB P (a++b)):AllB P a:=fun c q=>h c (by rw [ByteArray.data_append,Array.toList_append];exact List.mem_append.2 (.inl q))
theorem AllB.right {P:Int→Bool} {a b:Str} (h:AllB P (a++b)):AllB P b:=fun c q=>h c (by rw [ByteArray.data_append,Array.toList_append];exact List.mem_append.2 (.inr q))
theorem AllB.mono {P Q:Int→Bool} {a:Str} (h:AllB P a) (hq:∀ c,P c=true→Q c=true):AllB Q a:=fun c q=>hq _ (h c q)
theorem AllB.of {P:Int→Bool} {a:Str} (h:∀ i,i<a.size→P (bt a i)=true):AllB P a:=fun c hc=>by
 obtain ⟨i,hi⟩:=List.getElem?_of_mem hc
 have hl:i<a.size:=by
  rcases Nat.lt_or_ge i a.data.toList.length with q | q
  · exact q
  · rw [List.getElem?_eq_none q] at hi;cases hi
 rw [← kKJ a i c hi];exact h i hl
theorem AllB.to {P:Int→Bool} {a:Str} (h:AllB P a) {i:Nat} (hi:i<a.size):P (bt a i)=true:=by
 obtain ⟨c,h1,h2⟩:=at_bt a i hi;rw [h2];exact h c (List.mem_of_getElem? h1)
theorem AllB.ne {P:Int→Bool} {a:Str} (h:AllB P a) {c:Int} (hc:P c=false) {i:Nat} (hi:i<a.size):bt a i≠c:=fun e=>by
 have:=h.to hi;rw [e,hc] at this;cases this
def linC (c:Int):Bool:=kAP c || (kAW c || (c==95 || (c==43 || c==45)))
theorem linC_digit {c:Int} (h:kAP c=true):linC c=true:=by unfold linC;rw [h];rfl
theorem linC_letter {c:Int} (h:kAW c=true):linC c=true:=by unfold linC;rw [h];simp
theorem name_linC {v:Str} (h:kAT v=true):AllB linC v:=AllB.of fun i hi=>by
 rcases (kIC h).2.2 i hi with q | q | ⟨q,_⟩
 · exact linC_digit q
 · exact linC_letter q
 · rw [q];decide
theorem body_linC {n:Nat} {v:Str} (h:PartOk n v):AllB linC (kA7 n v):=by
 unfold kA7;refine AllB.app ?_ ?_
 · unfold numS
   split
   · exact AllB.nil
   · exact AllB.of fun i hi=>linC_digit (kC4 n i hi)
 · cases he:v.toList.isEmpty with
   | true=>rw [kD8 he];exact AllB.nil
   | false=>exact name_linC (h.name he).1
theorem sgn_linC (n:Int):AllB linC (sgnS n):=by
 unfold sgnS
 split <;> exact AllB.of fun i hi=>by
  obtain rfl:i=0:=by have:i<1:=hi;omega
  decide
theorem tail_linC:∀ (l:List (Int × Str)),(∀ p ∈ l,PairOk p)→AllB linC (kBY l)
 | [],_=>AllB.nil
 | p :: l,h=>by
   show AllB linC (sgnS p.1++(kA7 p.1.natAbs p.2++kBY l))
   exact (sgn_linC _).app ((body_linC (h p (List.mem_cons_self ..))).app (tail_linC l (fun q hq=>h q (List.mem_cons_of_mem _ hq))))
theorem first_linC (n:Int):AllB linC (kC5 n):=by
 unfold kC5
 split
 · exact AllB.of fun i hi=>by
    obtain rfl:i=0:=by have:i<1:=hi;omega
    decide
 · exact AllB.nil
theorem kD4 {x:Lin} (h:kAC x=true):AllB linC (kAF x):=by
 obtain ⟨p,l,e1,e2⟩:=kHN h;have hk:=pcs_ok h;rw [e1] at hk;rw [e2];exact (first_linC _).app ((body_linC (hk p (List.mem_cons_self ..))).app (tail_linC l (fun q hq=>hk q (List.mem_cons_of_mem _ hq))))
theorem occ_no {s sep:Str} {c:UInt8} {t:List UInt8} (hs:sep.data.toList=c :: t) {j:Nat} (h:j<s.size→bt s j≠(c.toNat:Int)):Lib.occAt s.data.toList sep.data.toList j=false:=by
 cases ho:Lib.occAt s.data.toList sep.data.toList j with
 | false=>rfl
 | true =>
   have h1:=Lib.occAt_head hs ho
   have hl:j<s.size:=by
    rcases Nat.lt_or_ge j s.data.toList.length with q | q
    · exact q
    · rw [List.getElem?_eq_none q] at h1;cases h1
   exact absurd (kKJ s j c h1) (h hl)
theorem kEW (a b:Str):(a++b).data.toList=a.data.toList++b.data.toList:=by rw [ByteArray.data_append,Array.toList_append]
theorem index_at {a sep r:Str} (h:∀ j,j<a.size→Lib.occAt (a++(sep++r)).data.toList sep.data.toList j=false):Lib.indexB (a++(sep++r)) sep=(a.size:Int):=by
 have e:a.data.toList.length=a.size:=by rw [Array.length_toList];rfl
 refine Lib.index_hit (i:=a.size) (fun j hj=>h j hj) ?_ ?_
 · rw [kEW,List.length_append,e];omega
 · unfold Lib.occAt
   rw [kEW,kEW,← e,List.drop_left];exact List.isPrefixOf_iff_prefix.2 (List.prefix_append _ _)
theorem index_no {s sep:Str} {c:UInt8} {t:List UInt8} (hs:sep.data.toList=c :: t) (h:∀ j,j<s.size→bt s j≠(c.toNat:Int)):Lib.indexB s sep= -1:=Lib.index_none fun j _=>occ_no hs (h j)
theorem head_no {a sep r:Str} {c:UInt8} {t:List UInt8} (hs:sep.data.toList=c :: t) (h:∀ j,j<a.size→bt a j≠(c.toNat:Int)):∀ j,j<a.size→Lib.occAt (a++(sep++r)).data.toList sep.data.toList j=false:=fun j hj=>occ_no hs fun _=>by rw [kBL hj];exact h j hj
theorem kFV {a b:Str}:(a++b).extract a.size (a++b).size=b:=by
 have:=kD6 (a:=a) (b:=b) (c:=⟨#[]⟩);rw [kCZ] at this;rw [ByteArray.size_append];exact this
theorem kFQ {a b:Str}:(a++b).extract 0 a.size=a:=by
 have:=kD6 (a:=⟨#[]⟩) (b:=a) (c:=b);rw [kDR] at this;have e:(⟨#[]⟩:Str).size=0:=rfl;rw [e,Nat.zero_add] at this;exact this
theorem kC9 (x y:Str) (l:List Str) (sep:Str):kAO (x :: y :: l) sep=x++(sep++kAO (y :: l) sep):=by
 unfold kAO;rw [List.map_cons,List.map_cons,Lib.join_cons,Lib.join_cons];unfold Lib.joinTail;apply ByteArray.ext;rw [ByteArray.data_append,ByteArray.data_append];simp
theorem kH2 {sep:Str} {c:UInt8} {t:List UInt8} (hs:sep.data.toList=c :: t):∀ (l:List Str) (x:Str),(∀ y ∈ x :: l,∀ j,j<y.size→bt y j≠(c.toNat:Int))→kBU (kAO (x :: l) sep) sep=x :: l
 | [],x,h=>by
   rw [kCH];unfold kBU;rw [Lib.splitB_miss _ _ _ _ (index_no hs (h x (List.mem_cons_self ..)))]
 | y :: l,x,h=>by
   have ih:=kH2 hs l y (fun z hz=>h z (List.mem_cons_of_mem _ hz))
   have hz:1≤sep.size:=by
    have:sep.data.toList.length=sep.size:=by rw [Array.length_toList];rfl
    rw [← this,hs];simp
   rw [kC9];have hix:=index_at (a:=x) (sep:=sep) (r:=kAO (y :: l) sep) (head_no hs (h x (List.mem_cons_self ..)))
   have hrest:(x++(sep++kAO (y :: l) sep)).extract (x.size+sep.size) (x++(sep++kAO (y :: l) sep)).size=kAO (y :: l) sep:=by
    rw [← ByteArray.append_assoc,← ByteArray.size_append];exact kFV
   unfold kBU at ih ⊢;rw [Lib.countB_hit _ _ _ hz hix,Nat.add_comm,Lib.splitB_hit _ _ _ _ _ hix,hrest,ih,Nat.add_zero,kFQ]
theorem hasP_app (p r:Str):hasP (p++r) p=true:=by
 unfold hasP Lib.hasPrefix;rw [kEW];exact List.isPrefixOf_iff_prefix.2 (List.prefix_append _ _)
theorem cutP_app (p r:Str):cutP (p++r) p=r:=by
 unfold cutP Lib.trimPrefix;have h:=hasP_app p r;unfold hasP at h;rw [if_pos h,kEW,List.drop_left]
theorem hasE_app (r e:Str):hasE (r++e) e=true:=by
 unfold hasE Lib.hasSuffix;rw [kEW];exact List.isSuffixOf_iff_suffix.2 (List.suffix_append _ _)
theorem cutE_app (r e:Str):cutE (r++e) e=r:=by
 unfold cutE Lib.trimSuffix;have h:=hasE_app r e;unfold hasE at h;rw [if_pos h,kEW,List.length_append,Nat.add_sub_cancel,List.take_left]
theorem hasE_no {s e:Str} {P:Int→Bool} (h:AllB P s) {c:UInt8} (hc:c ∈ e.data.toList) (hp:P (c.toNat:Int)=false):hasE s e=false:=by
 cases ho:hasE s e with
 | false=>rfl
 | true =>
   have h1:e.data.toList <:+ s.data.toList:=List.isSuffixOf_iff_suffix.1 ho;have:=h c (h1.subset hc);rw [hp] at this;cases this
theorem inner_text (x:Shp):kB3 (kA3 x)=kAO (rowL x++x.dims.map kAF) comS:=by
 unfold kB3 kA3;rw [ByteArray.append_assoc,cutP_app,cutE_app];rfl
def kI8 (c:Int):Bool:= !(c==44 || (c==91 || (c==93 || (c==32 || (c==41 || (c==58 || c==10))))))
theorem kHR {c:Int} (h:linC c=true):kI8 c=true:=by
 unfold linC kAP kAW at h;unfold kI8;simp at h ⊢;omega
theorem dots_noSep:AllB kI8 ⟨#[46,46]⟩:=AllB.of fun i hi=>by
 have hi:i<2:=hi;obtain rfl | rfl:i=0∨i=1:=by omega
 · decide
 · decide
theorem row_name {x:Shp} (h:kAG x=true):x.row.toList.isEmpty=true∨kAT x.row=true:=by
 unfold kAG at h;rw [Bool.and_eq_true] at h;have h1:=h.1;unfold rowB at h1
 simpa using h1
theorem kGY {x:Shp} (h:kAG x=true):∀ y ∈ rowL x++x.dims.map kAF,AllB kI8 y∧y.toList.isEmpty=false:=fun y hy=>by
 rcases List.mem_append.1 hy with q | q
 · refine ⟨?_,rowL_full x y q⟩
   unfold rowL at q
   split at q
   · cases q
   · rename_i he
     rw [List.mem_singleton.1 q];refine AllB.app ?_ dots_noSep;rcases row_name h with g | g
     · exact absurd g he
     · exact (name_linC g).mono fun c=>kHR
 · obtain ⟨d,hd,rfl⟩:=List.mem_map.1 q
   have hv:=(kCK h).2 d hd;exact ⟨(kD4 hv).mono fun c=>kHR,kD5 hv⟩
theorem split_parts {x:Shp} (h:kAG x=true):kBU (kB3 (kA3 x)) comS=if (rowL x++x.dims.map kAF).isEmpty then [⟨#[]⟩] else rowL x++x.dims.map kAF:=by
 have hp:=kGY h;rw [inner_text];cases hl:rowL x++x.dims.map kAF with
 | nil =>
   rw [kGG];unfold kBU;rw [Lib.splitB_miss _ _ _ _ (index_no (c:=44) (t:=[32]) rfl (fun j hj=>by cases hj))];rfl
 | cons y l =>
   rw [hl] at hp;exact kH2 (c:=44) (t:=[32]) rfl l y (fun z hz j hj=>(hp z hz).1.ne (by decide) hj)
theorem runH_dims:∀ (ds:List Lin) (k:Nat) (acc:Shp),(∀ d ∈ ds,kAC d=true)→runH false (ds.map kAF) k acc=some ⟨acc.row,acc.dims++ds⟩
 | [],k,acc,_=>by rw [List.append_nil];rfl
 | d :: ds,k,acc,h=>by
   have hv:=h d (List.mem_cons_self ..);obtain ⟨r1,r2⟩:=kJW itemP_law hv;have he:=hasE_no (e:=dotS) (kD4 hv) (c:=46) (List.mem_cons_self ..) (by decide);rw [List.map_cons,runH_cons];unfold stepH;rw [he,r1,r2]
   show runH false (ds.map kAF) (k+1) ⟨acc.row,acc.dims++[d]⟩=_
   rw [runH_dims ds (k+1) _ (fun q hq=>h q (List.mem_cons_of_mem _ hq))]
   show some (⟨acc.row,(acc.dims++[d])++ds⟩:Shp)=_
   rw [List.append_assoc];rfl
theorem kGA {x:Shp} (h:kAG x=true):kGB (kA3 x)=some x:=by
 have hd:=(kCK h).2;have hfull:=kE1 (l:=rowL x++x.dims.map kAF) (fun y hy=>(kGY h y hy).2) comS
 have hrun:runH (kB3 (kA3 x)).toList.isEmpty (kBU (kB3 (kA3 x)) comS) 0 ⟨⟨#[]⟩,[]⟩=some x:=by
  rw [split_parts h,inner_text,hfull];by_cases hr:x.row.toList.isEmpty=true
  · have e1:rowL x=[]:=by unfold rowL;rw [if_pos hr]
    have e2:(⟨⟨#[]⟩,x.dims⟩:Shp)=x:=by rw [← kD8 hr]
    rw [e1,List.nil_append];cases hds:x.dims with
    | nil =>
      rw [hds] at e2;rw [← e2];rfl
    | cons d ds =>
      rw [hds] at e2 hd;rw [← e2];have:=runH_dims (d :: ds) 0 ⟨⟨#[]⟩,[]⟩ hd
      simpa using this
  · have e1:rowL x=[x.row++dotS]:=by unfold rowL;rw [if_neg hr];rfl
    rw [e1]
    show runH false ((x.row++dotS) :: x.dims.map kAF) 0 ⟨⟨#[]⟩,[]⟩=_
    rw [runH_cons];unfold stepH;rw [hasE_app,cutE_app]
    show runH false (x.dims.map kAF) 1 ⟨x.row,[]⟩=_
    rw [runH_dims _ _ _ hd];rfl
 unfold kGB;have e1:hasP (kA3 x) ⟨#[91]⟩=true:=by unfold kA3;rw [ByteArray.append_assoc];exact hasP_app _ _
 have e2:hasE (cutP (kA3 x) ⟨#[91]⟩) ⟨#[93]⟩=true:=by unfold kA3;rw [ByteArray.append_assoc,cutP_app];exact hasE_app _ _
 rw [e1,e2,hrun]
 show (if kAG x && (kA3 x).toList==(kA3 x).toList then some x else none)=_
 rw [h];simp
theorem readH_sound {s:Str} {x:Shp} (h:kGB s=some x):kAG x=true∧kA3 x=s:=by
 unfold kGB at h
 split at h
 · split at h
   · cases h
   · split at h
     · rename_i y _ hc
       obtain rfl:=Option.some.inj h;rw [Bool.and_eq_true] at hc;exact ⟨hc.1,(kA4 _ _).1 hc.2⟩
     · cases h
 · cases h
structure PSt (s:Str) (k:Nat) (x:Lin) (v:Value) (w W:World):Prop where
 src:SrcAt s k (w.heap.size+1) W
 out:Bx W (w.heap.size+1+1) 45 [.int .i64 x.const,v]
 sl:SlV kBE (fun q=>w.heap.size+1+1<q) W v x.terms
 res:Bx W w.heap.size 45 [.int .i64 0,.slice none 0 0]
 below:Below w.heap.size w W
 le:k≤s.size
theorem PSt.step {s:Str} {k k':Nat} {x:Lin} {v:Value} {w W W':World} (h:PSt s k x v w W) (hx:SrcAt s k' (w.heap.size+1) W') (hk:Kb (w.heap.size+1) W W') (hl:k'≤s.size):PSt s k' x v w W' :=
 ⟨hx,h.out.kb hk (by omega),h.sl.frame (fun q hq hlt=>hk.block q hlt (by omega)),h.res.kb hk (by omega),h.below.trans (hk.below (by omega) h.below.size),hl⟩
theorem PSt.later {s:Str} {k:Nat} {x:Lin} {v:Value} {w W W':World} (h:PSt s k x v w W) (hb:Below W.heap.size W W'):PSt s k x v w W' :=
 ⟨h.src.below hb h.src.lt,h.out.below hb h.out.lt,h.sl.frame (fun q hq hlt=>hb.block q hlt),h.res.below hb h.res.lt,h.below.trans (hb.mono h.below.size),h.le⟩
theorem PSt.put {s:Str} {k:Nat} {x y:Lin} {v t:Value} {w W W':World} (h:PSt s k x v w W) (hb:Below W.heap.size W W') (hs:SlV kBE (fun q=>W.heap.size≤q) W' t y.terms):PSt s k y t w ((W'.setCell ⟨w.heap.size+1+1,0,none⟩ (.int .i64 y.const)).setCell ⟨w.heap.size+1+1,1,none⟩ t):=by
 have h2:=h.later hb;have hlt:=h.out.lt;refine ⟨(h2.src.other (by show w.heap.size+1+1≠_;omega)).other (by show w.heap.size+1+1≠_;omega),(h2.out.set 0 _).set 1 _,(hs.frame (fun q hq _=>?_)).mono (fun q hq _=>by have:W.heap.size≤q:=hq;omega),(h2.res.other (by show w.heap.size+1+1≠_;omega)).other (by show w.heap.size+1+1≠_;omega),(h2.below.setCell (by show _≤w.heap.size+1+1;omega) _).setCell (by show _≤w.heap.size+1+1;omega) _,h.le⟩;have:W.heap.size≤q:=hq;rw [kAB (by show w.heap.size+1+1≠q;omega),kAB (by show w.heap.size+1+1≠q;omega)]
theorem PSt.const {s:Str} {k:Nat} {x:Lin} {v:Value} {w W:World} (h:PSt s k x v w W) (c:Int):PSt s k ⟨c,x.terms⟩ v w (W.setCell ⟨w.heap.size+1+1,0,none⟩ (.int .i64 c)) :=
 ⟨h.src.other (by show w.heap.size+1+1≠_;omega),h.out.set 0 _,h.sl.frame (fun q hq _=>kAB (by show w.heap.size+1+1≠q;omega)),h.res.other (by show w.heap.size+1+1≠_;omega),h.below.setCell (by show _≤w.heap.size+1+1;omega) _,h.le⟩
theorem ref04_Parse (s:Str) (hs:s.size≤900000) (w:World) :
 Calls Tryz.prog 69 #[.string s] w fun e w'=>(∃ ds,e= .returned (.tuple #[.agg ds.toArray,.int .i64 (kEU (kA5 (kCD s) s))])∧RLin.rd (fun k=>w.heap.size≤k) w' ds (kET (kA5 (kCD s) s)))∧Below w.heap.size w w':=by
 have HP:Hid (kJ0 (kCD s) s (s.size+1) (kJN s) (kJM s) ⟨0,[]⟩=kA5 (kCD s) s):=hJ rfl;have HIt:Hid (∀ k,k≤s.size→(kCD s k).2.2.1=true→ItemOk s k (kCD s k)):=hJ (fun k hk h=>itemR_ok hk h);generalize kA5 (kCD s) s=res at *;have H0:Hid (kJN s=if isAt s (blk s 0) 45 then blk s 0+1 else isTo s (blk s 0) 43):=hJ rfl;have H1:Hid (kJM s=if isAt s (blk s 0) 45 then -1 else 1):=hJ rfl;obtain ⟨B0,ya,yb,yc,hW0⟩:=box3 w 45 [.int .i64 0,.slice none 0 0] 152 [.string s,.int .i64 0] 45 [.int .i64 0,.slice none 0 0];have xa0:=box0 ya 0 _ rfl;have xa1:=box0 ya 1 _ rfl;have xb0:=box0 yb 0 _ rfl;have xb1:=box0 yb 1 _ rfl;have xc0:=box0 yc 0 _ rfl;have xc1:=box0 yc 1 _ rfl;have bka:Bx _ _ _ _:=ya;have bkb:Bx _ _ _ _:=yb;have bkc:Bx _ _ _ _:=yc;clear ya yb yc;have HS0:Hid (PSt s 0 ⟨0,[]⟩ (.slice none 0 0) w _):=hJ ⟨bkb,bkc,⟨none,0,rfl,Sl.empty _ _ _⟩,bka,B0.out,Nat.zero_le _⟩;clear xa0 xa1 xb0 xb1 xc0 xc1 bka bkb bkc hW0 B0;go_enter func69,ntmps69
 go_wp2_with fail
 generalize (((w.alloc (.cells #[.int .i64 0,.slice none 0 0] 45)).alloc (.cells #[.string s,.int .i64 0] 152)).alloc (.cells #[.int .i64 0,.slice none 0 0] 45))=W at *;refine (kBI s (by omega) 0 _ _ HS0.out.src (Nat.zero_le _)).mono ?_;rintro e w1 ⟨rfl,hx,hk⟩;have hb0:blk s 0≤s.size:=kFS (Nat.zero_le _);have HS1:=hJ (HS0.out.step hx hk hb0);clear hx hk HS0;generalize blk s 0=b0 at *
 go_wp2_with fail
 refine (kFJ s (by omega) b0 _ 45 _ HS1.out.src hb0).mono ?_;rintro e w2 ⟨rfl,hx,hk⟩;cases h45:isAt s b0 45 with
 | true =>
   have hto:isTo s b0 45=b0+1:=by unfold isTo;rw [h45];rfl
   have hb1:=kCR h45;rw [hto] at hx;have HS2:=hJ (HS1.out.step hx hk hb1);have hH0:=H0.out;have hH1:=H1.out;rw [if_pos h45] at hH0 hH1;rw [hH0,hH1] at HP;clear hx hk HS1 hto H0 H1 hH0 hH1;generalize b0+1=k0 at *
   go_wp2_with fail
   go_loopg [6] (s.size+1) (fun g sv wr=>∃ (k m:Nat) (sg:Int) (x:Lin) (v:Value),sv= .int .i64 sg∧(sg=1∨sg= -1)∧m≤k∧s.size<k+g∧Hid (AccOk m x)∧Hid (PSt s k x v w wr)∧Hid (kJ0 (kCD s) s g k sg x=res))
   case atStart=>exact ⟨k0,0,_,_,_,rfl,by decide,Nat.zero_le _,by omega,hJ (AccOk.zero 0),HS2,HP⟩
   case round =>
    clear HS2 HP;obtain ⟨k,m,sg,x,v,rfl,hsg,hmk,hkg,HA,HS,HLp⟩:=hrel;have hk:=HS.out.le;obtain ⟨g,rfl⟩:∃ g,gk=g+1:=⟨gk - 1,by omega⟩
    go_wp2_with fail
    refine (kBI s (by omega) k _ _ HS.out.src hk).mono ?_;rintro e w3 ⟨rfl,hx,hk3⟩;have hb0:blk s k≤s.size:=kFS hk;have hkb:k≤blk s k:=kB1 _ _ _;have HS3:=hJ (HS.out.step hx hk3 hb0);have hu:=HLp.out;rw [kJ0] at hu;clear hx hk3 HS HLp;generalize blk s k=b0 at *
    go_wp2_with fail
    refine (src_item s (by omega) b0 _ _ HS3.out.src hb0).mono ?_;rintro e w4 ⟨rfl,hx,hk4⟩;have HI:=hJ (HIt.out b0 hb0);generalize kCD s b0=r at *;obtain ⟨r1,r2,r3,r4⟩:=r;cases r3 with
    | false =>
      dsimp only at hu hx;rw [if_neg (by decide)] at hu;have HF:=hJ hu;have HRs:=hJ (HS3.out.res.kb hk4 (by omega));have HBl:=hJ (HS3.out.below.trans (hk4.below (by omega) HS3.out.below.size));clear hu hx hk4 HI HS3;have z0:=HRs.out.cell 0 _ rfl;have z1:=HRs.out.cell 1 _ rfl;have f0:=HRs.out.fz 0;have f1:=HRs.out.fz 1;have hl0:=HRs.out.lt;have HZz:=hJ ((HRs.out.set 0 (.int .i64 0)).set 1 (.slice none 0 0));have s0:=HZz.out.cell 0 _ rfl;have s1:=HZz.out.cell 1 _ rfl
      go_wp2_with fail
      refine bodyPost_ret (v:=.tuple #[.agg #[.int .i64 0,.slice none 0 0],.int .i64 6]) (by simp [results,results69,go_sem,s0,s1,hl0]) rfl ?_;exact ⟨⟨_,by rw [← HF.out];rfl,by rw [← HF.out];exact RLin.zero _ _⟩,(HBl.out.setCell (Nat.le_refl _) _).setCell (Nat.le_refl _) _⟩
    | true =>
      have HIo:=hJ (HI.out rfl);rw [if_pos rfl] at hu;have HS4:=hJ (HS3.out.step hx hk4 HIo.out.le);have HA2:=hJ (HA.out.next HIo.out hsg);have HL2:=hJ hu;have h1:=HIo.out.lo;have h2:=HIo.out.hi;have hbr:=HIo.out.ge;dsimp only at hbr;have hac:=HA.out.const;have hlen:=HA.out.len;have hbd:=HA.out.bd;dsimp only at h1 h2 HS4 HA2 HL2;have hb: -10000000≤sg * r1∧sg * r1≤10000000:=by rcases hsg with rfl | rfl <;> omega
      have hp1:IntKind.i64.wrap (sg * r1)=sg * r1:=by rw [IntKind.wrap_i64];omega
      have hp2: -9223372036854775808≤sg * r1:=by omega
      have hp3:sg * r1≤9223372036854775807:=by omega
      have hm9:(m:Int)≤900000:=by omega
      have o0:=HS4.out.out.cell 0 _ rfl;have o1:=HS4.out.out.cell 1 _ rfl;have of0:=HS4.out.out.fz 0;have of1:=HS4.out.out.fz 1;clear hu hx hk4 HI HS3 HA HIo;have hAc:∀ n u,kEX x n u=if u.toList.isEmpty then ⟨x.const+n,x.terms⟩ else ⟨x.const,plus x.terms u n⟩:=fun _ _=>rfl
      cases hem:r2.toList.isEmpty with
      | true =>
        have hw2:IntKind.i64.wrap (x.const+sg * r1)=x.const+sg * r1:=by rw [IntKind.wrap_i64];omega
        have hAc:=hAc (sg * r1) r2;rw [if_pos hem] at hAc;rw [hAc] at HA2 HL2;have HS5:=hJ (HS4.out.const (x.const+sg * r1));clear hAc hbd
        go_wp2_with fail
        clear HS4 o0 o1 of0 of1 hp1 hp2 hp3 hw2 hb h1 h2 hac hlen;generalize W5x:(w4.setCell ⟨w.heap.size+1+1,0,none⟩ (.int .i64 (x.const+sg * r1)))=W5 at *;generalize (⟨x.const+sg * r1,x.terms⟩:Lin)=acc at *;generalize v=va at *;refine (kBI s (by omega) r4 _ _ HS5.out.src HS5.out.le).mono ?_;rintro e w6 ⟨rfl,hx,hk⟩;have hb6:blk s r4≤s.size:=kFS HS5.out.le;have hrb:r4≤blk s r4:=kB1 _ _ _;have HS6:=hJ (HS5.out.step hx hk hb6);clear hx hk HS5;generalize blk s r4=b6 at *;have z0:=HS6.out.src.cell 0 _ rfl;have z1:=HS6.out.src.cell 1 _ rfl;have Z0:=Later.cell z0;have Z1:=Later.cell z1;by_cases hend:b6=s.size
        · have qe:((b6:Int)==(s.size:Int))=true:=beq_iff_eq.2 (by omega)
          have hf:=HL2.out;rw [if_pos hend] at hf;have HF:=hJ hf;have HSz:Hid (szL acc):=hJ (fun t ht=>Nat.le_trans (kCP (HA2.out.names t ht)) (by decide));clear hf HL2 hend HA2
          go_wp2_with fail
          refine kAA (by kernel_rfl) (by kernel_rfl) ?_
          repeat (go_big_quiet_step (fail))
          refine wpQuiet_nil ?_;rintro _ ⟨t9,rfl⟩;have HS7:=hJ (HS6.out.later t9.b);clear z0 z1 Z0 Z1 HS6;generalize t9.w=W7 at *;have o0:=HS7.out.out.cell 0 _ rfl;have o1:=HS7.out.out.cell 1 _ rfl
          go_wp2_with fail
          refine (kES (S:=fun q=>w.heap.size+1+1<q) (x:=acc) (cs:=[.int .i64 acc.const,va]) ⟨va,rfl,HS7.out.sl⟩ HSz.out).mono ?_;rintro e w8 ⟨⟨ds,rfl,hr⟩,hb8⟩;have HS8:=hJ (HS7.out.later hb8);clear hb8 HS7 o0 o1;have HFx:Hid (kEU (some acc)=limE acc∧kET (some acc)=limL acc):=hJ ⟨rfl,rfl⟩;generalize limL acc=lx at *;generalize limE acc=le at *;obtain ⟨t8,rfl,a8,c8,rfl,hs8⟩:=hr;have HSl8:=hJ hs8;clear hs8;have HRs:=hJ HS8.out.res;have HBl:=hJ HS8.out.below;have z0:=HRs.out.cell 0 _ rfl;have z1:=HRs.out.cell 1 _ rfl;have f0:=HRs.out.fz 0;have f1:=HRs.out.fz 1;have hl0:=HRs.out.lt;have HZz:=hJ ((HRs.out.set 0 (.int .i64 lx.const)).set 1 (.slice a8 lx.terms.length c8));have s0:=HZz.out.cell 0 _ rfl;have s1:=HZz.out.cell 1 _ rfl
          go_wp2_with fail
          refine bodyPost_ret (v:=.tuple #[.agg #[.int .i64 lx.const,.slice a8 lx.terms.length c8],.int .i64 le]) (by simp [results,results69,go_sem,s0,s1,hl0]) rfl ?_
          have hrd:RLin.rd (fun k=>w.heap.size≤k) ((w8.setCell ⟨w.heap.size,0,none⟩ (.int .i64 lx.const)).setCell ⟨w.heap.size,1,none⟩ (.slice a8 lx.terms.length c8)) [.int .i64 lx.const,.slice a8 lx.terms.length c8] lx:=⟨_,rfl,a8,c8,rfl,(HSl8.out.frame fun q hq _=>by
           have:w.heap.size+1+1<q:=hq;rw [kAB (by show w.heap.size≠q;omega),kAB (by show w.heap.size≠q;omega)]).mono (fun q hq _=>by have:w.heap.size+1+1<q:=hq;omega)⟩
          exact ⟨⟨_,by rw [← HF.out,HFx.out.1],by rw [← HF.out,HFx.out.2];exact hrd⟩,(HBl.out.setCell (Nat.le_refl _) _).setCell (Nat.le_refl _) _⟩
        · have qe:((b6:Int)==(s.size:Int))=false:=beq_eq_false_iff_ne.2 (by omega)
          have hf:=HL2.out;rw [if_neg hend] at hf;have HL3:=hJ hf;clear hf HL2 hend
          go_wp2_with fail
          refine kAA (by kernel_rfl) (by kernel_rfl) ?_
          repeat (go_big_quiet_step (fail))
          refine wpQuiet_nil ?_;rintro _ ⟨t9,rfl⟩;have HS7:=hJ (HS6.out.later t9.b);clear z0 z1 Z0 Z1 HS6;generalize t9.w=W7 at *
          go_wp2_with fail
          refine (kFJ s (by omega) b6 _ 45 _ HS7.out.src hb6).mono ?_;rintro e w8 ⟨rfl,hx,hk⟩;cases h45:isAt s b6 45 with
          | true =>
            have hto:isTo s b6 45=b6+1:=by unfold isTo;rw [h45];rfl
            have hb8:=kCR h45;rw [hto] at hx;have HS8:=hJ (HS7.out.step hx hk hb8);have hf:=HL3.out;rw [if_pos h45] at hf;have HF:=hJ hf;clear hf HL3 hx hk HS7 hto
            go_wp2_with fail
            go_roundg g
            case measure=>omega
            case rel=>exact ⟨b6+1,m+1,-1,acc,va,rfl,.inr rfl,by omega,by omega,HA2,HS8,HF⟩
          | false =>
            have hto:isTo s b6 45=b6:=by unfold isTo;rw [h45];rfl
            rw [hto] at hx;have HS8:=hJ (HS7.out.step hx hk hb6);have hf:=HL3.out;rw [if_neg (by rw [h45];decide)] at hf;have HL4:=hJ hf;clear hf HL3 hx hk HS7 hto
            go_wp2_with fail
            refine (kFJ s (by omega) b6 _ 43 _ HS8.out.src hb6).mono ?_;rintro e w10 ⟨rfl,hx,hk⟩;cases h43:isAt s b6 43 with
            | true =>
              have hto:isTo s b6 43=b6+1:=by unfold isTo;rw [h43];rfl
              have hb8:=kCR h43;rw [hto] at hx;have HS9:=hJ (HS8.out.step hx hk hb8);have hf:=HL4.out;rw [if_pos h43] at hf;have HF:=hJ hf;clear hf HL4 hx hk HS8 hto
              go_wp2_with fail
              go_roundg g
              case measure=>omega
              case rel=>exact ⟨b6+1,m+1,1,acc,va,rfl,.inl rfl,by omega,by omega,HA2,HS9,HF⟩
            | false =>
              have hto:isTo s b6 43=b6:=by unfold isTo;rw [h43];rfl
              rw [hto] at hx;have HS9:=hJ (HS8.out.step hx hk hb6);have hf:=HL4.out;rw [if_neg (by rw [h43];decide)] at hf;have HF:=hJ hf;clear hf HL4 hx hk HS8 hto;have HRs:=hJ HS9.out.res;have HBl:=hJ HS9.out.below;have z0:=HRs.out.cell 0 _ rfl;have z1:=HRs.out.cell 1 _ rfl;have f0:=HRs.out.fz 0;have f1:=HRs.out.fz 1;have hl0:=HRs.out.lt;have HZz:=hJ ((HRs.out.set 0 (.int .i64 0)).set 1 (.slice none 0 0));have s0:=HZz.out.cell 0 _ rfl;have s1:=HZz.out.cell 1 _ rfl
              go_wp2_with fail
              refine bodyPost_ret (v:=.tuple #[.agg #[.int .i64 0,.slice none 0 0],.int .i64 6]) (by simp [results,results69,go_sem,s0,s1,hl0]) rfl ?_;exact ⟨⟨_,by rw [← HF.out];rfl,by rw [← HF.out];exact RLin.zero _ _⟩,(HBl.out.setCell (Nat.le_refl _) _).setCell (Nat.le_refl _) _⟩
      | false =>
        have hAc:=hAc (sg * r1) r2;rw [if_neg (by rw [hem];decide)] at hAc;rw [hAc] at HA2 HL2;have hHb:∀ u ∈ x.terms,-9223372036854775808≤u.c+sg * r1∧u.c+sg * r1≤9223372036854775807:=fun u hu=>by have:=hbd u hu;omega
        have HHb:=hJ hHb;have HPl:=hJ (ref04_Plus (x:=x) (cs:=[.int .i64 x.const,v]) ⟨v,rfl,HS4.out.sl⟩ r2 (sg * r1) (by omega) hHb);clear hAc hHb hbd HHb
        go_wp2_with fail
        refine HPl.out.mono ?_;rintro e w5 ⟨⟨ds,rfl,hr⟩,hb5⟩;obtain ⟨_,rfl,a5,c5,rfl,hs5⟩:=hr;have HS5:=hJ (HS4.out.put (y:=⟨x.const,plus x.terms r2 (sg * r1)⟩) hb5 ⟨a5,c5,rfl,hs5⟩);dsimp only at hs5 HS5;generalize hL5:(plus x.terms r2 (sg * r1)).length=L5 at *;have ho5:=HS4.out.out.below hb5 HS4.out.out.lt;have p0:=ho5.cell 0 _ rfl;have p1:=ho5.cell 1 _ rfl;have p2:=ho5.fz 0;have p3:=ho5.fz 1;clear hs5 hb5 ho5 HPl hL5
        go_wp2_with fail
        clear HS4 o0 o1 of0 of1 hp1 hp2 hp3 hb h1 h2 hac hlen p0 p1 p2 p3;generalize W5x:((w5.setCell ⟨w.heap.size+1+1,0,none⟩ (.int .i64 x.const)).setCell ⟨w.heap.size+1+1,1,none⟩ (.slice a5 L5 c5))=W5 at *;generalize (⟨x.const,plus x.terms r2 (sg * r1)⟩:Lin)=acc at *;generalize Value.slice a5 L5 c5=va at *;refine (kBI s (by omega) r4 _ _ HS5.out.src HS5.out.le).mono ?_;rintro e w6 ⟨rfl,hx,hk⟩;have hb6:blk s r4≤s.size:=kFS HS5.out.le;have hrb:r4≤blk s r4:=kB1 _ _ _;have HS6:=hJ (HS5.out.step hx hk hb6);clear hx hk HS5;generalize blk s r4=b6 at *;have z0:=HS6.out.src.cell 0 _ rfl;have z1:=HS6.out.src.cell 1 _ rfl;have Z0:=Later.cell z0;have Z1:=Later.cell z1;by_cases hend:b6=s.size
        · have qe:((b6:Int)==(s.size:Int))=true:=beq_iff_eq.2 (by omega)
          have hf:=HL2.out;rw [if_pos hend] at hf;have HF:=hJ hf;have HSz:Hid (szL acc):=hJ (fun t ht=>Nat.le_trans (kCP (HA2.out.names t ht)) (by decide));clear hf HL2 hend HA2
          go_wp2_with fail
          refine kAA (by kernel_rfl) (by kernel_rfl) ?_
          repeat (go_big_quiet_step (fail))
          refine wpQuiet_nil ?_;rintro _ ⟨t9,rfl⟩;have HS7:=hJ (HS6.out.later t9.b);clear z0 z1 Z0 Z1 HS6;generalize t9.w=W7 at *;have o0:=HS7.out.out.cell 0 _ rfl;have o1:=HS7.out.out.cell 1 _ rfl
          go_wp2_with fail
          refine (kES (S:=fun q=>w.heap.size+1+1<q) (x:=acc) (cs:=[.int .i64 acc.const,va]) ⟨va,rfl,HS7.out.sl⟩ HSz.out).mono ?_;rintro e w8 ⟨⟨ds,rfl,hr⟩,hb8⟩;have HS8:=hJ (HS7.out.later hb8);clear hb8 HS7 o0 o1;have HFx:Hid (kEU (some acc)=limE acc∧kET (some acc)=limL acc):=hJ ⟨rfl,rfl⟩;generalize limL acc=lx at *;generalize limE acc=le at *;obtain ⟨t8,rfl,a8,c8,rfl,hs8⟩:=hr;have HSl8:=hJ hs8;clear hs8;have HRs:=hJ HS8.out.res;have HBl:=hJ HS8.out.below;have z0:=HRs.out.cell 0 _ rfl;have z1:=HRs.out.cell 1 _ rfl;have f0:=HRs.out.fz 0;have f1:=HRs.out.fz 1;have hl0:=HRs.out.lt;have HZz:=hJ ((HRs.out.set 0 (.int .i64 lx.const)).set 1 (.slice a8 lx.terms.length c8));have s0:=HZz.out.cell 0 _ rfl;have s1:=HZz.out.cell 1 _ rfl
          go_wp2_with fail
          refine bodyPost_ret (v:=.tuple #[.agg #[.int .i64 lx.const,.slice a8 lx.terms.length c8],.int .i64 le]) (by simp [results,results69,go_sem,s0,s1,hl0]) rfl ?_
          have hrd:RLin.rd (fun k=>w.heap.size≤k) ((w8.setCell ⟨w.heap.size,0,none⟩ (.int .i64 lx.const)).setCell ⟨w.heap.size,1,none⟩ (.slice a8 lx.terms.length c8)) [.int .i64 lx.const,.slice a8 lx.terms.length c8] lx:=⟨_,rfl,a8,c8,rfl,(HSl8.out.frame fun q hq _=>by
           have:w.heap.size+1+1<q:=hq;rw [kAB (by show w.heap.size≠q;omega),kAB (by show w.heap.size≠q;omega)]).mono (fun q hq _=>by have:w.heap.size+1+1<q:=hq;omega)⟩
          exact ⟨⟨_,by rw [← HF.out,HFx.out.1],by rw [← HF.out,HFx.out.2];exact hrd⟩,(HBl.out.setCell (Nat.le_refl _) _).setCell (Nat.le_refl _) _⟩
        · have qe:((b6:Int)==(s.size:Int))=false:=beq_eq_false_iff_ne.2 (by omega)
          have hf:=HL2.out;rw [if_neg hend] at hf;have HL3:=hJ hf;clear hf HL2 hend
          go_wp2_with fail
          refine kAA (by kernel_rfl) (by kernel_rfl) ?_
          repeat (go_big_quiet_step (fail))
          refine wpQuiet_nil ?_;rintro _ ⟨t9,rfl⟩;have HS7:=hJ (HS6.out.later t9.b);clear z0 z1 Z0 Z1 HS6;generalize t9.w=W7 at *
          go_wp2_with fail
          refine (kFJ s (by omega) b6 _ 45 _ HS7.out.src hb6).mono ?_;rintro e w8 ⟨rfl,hx,hk⟩;cases h45:isAt s b6 45 with
          | true =>
            have hto:isTo s b6 45=b6+1:=by unfold isTo;rw [h45];rfl
            have hb8:=kCR h45;rw [hto] at hx;have HS8:=hJ (HS7.out.step hx hk hb8);have hf:=HL3.out;rw [if_pos h45] at hf;have HF:=hJ hf;clear hf HL3 hx hk HS7 hto
            go_wp2_with fail
            go_roundg g
            case measure=>omega
            case rel=>exact ⟨b6+1,m+1,-1,acc,va,rfl,.inr rfl,by omega,by omega,HA2,HS8,HF⟩
          | false =>
            have hto:isTo s b6 45=b6:=by unfold isTo;rw [h45];rfl
            rw [hto] at hx;have HS8:=hJ (HS7.out.step hx hk hb6);have hf:=HL3.out;rw [if_neg (by rw [h45];decide)] at hf;have HL4:=hJ hf;clear hf HL3 hx hk HS7 hto
            go_wp2_with fail
            refine (kFJ s (by omega) b6 _ 43 _ HS8.out.src hb6).mono ?_;rintro e w10 ⟨rfl,hx,hk⟩;cases h43:isAt s b6 43 with
            | true =>
              have hto:isTo s b6 43=b6+1:=by unfold isTo;rw [h43];rfl
              have hb8:=kCR h43;rw [hto] at hx;have HS9:=hJ (HS8.out.step hx hk hb8);have hf:=HL4.out;rw [if_pos h43] at hf;have HF:=hJ hf;clear hf HL4 hx hk HS8 hto
              go_wp2_with fail
              go_roundg g
              case measure=>omega
              case rel=>exact ⟨b6+1,m+1,1,acc,va,rfl,.inl rfl,by omega,by omega,HA2,HS9,HF⟩
            | false =>
              have hto:isTo s b6 43=b6:=by unfold isTo;rw [h43];rfl
              rw [hto] at hx;have HS9:=hJ (HS8.out.step hx hk hb6);have hf:=HL4.out;rw [if_neg (by rw [h43];decide)] at hf;have HF:=hJ hf;clear hf HL4 hx hk HS8 hto;have HRs:=hJ HS9.out.res;have HBl:=hJ HS9.out.below;have z0:=HRs.out.cell 0 _ rfl;have z1:=HRs.out.cell 1 _ rfl;have f0:=HRs.out.fz 0;have f1:=HRs.out.fz 1;have hl0:=HRs.out.lt;have HZz:=hJ ((HRs.out.set 0 (.int .i64 0)).set 1 (.slice none 0 0));have s0:=HZz.out.cell 0 _ rfl;have s1:=HZz.out.cell 1 _ rfl
              go_wp2_with fail
              refine bodyPost_ret (v:=.tuple #[.agg #[.int .i64 0,.slice none 0 0],.int .i64 6]) (by simp [results,results69,go_sem,s0,s1,hl0]) rfl ?_;exact ⟨⟨_,by rw [← HF.out];rfl,by rw [← HF.out];exact RLin.zero _ _⟩,(HBl.out.setCell (Nat.le_refl _) _).setCell (Nat.le_refl _) _⟩
 | false =>
   have hto:isTo s b0 45=b0:=by unfold isTo;rw [h45];rfl
   rw [hto] at hx;have HS2:=hJ (HS1.out.step hx hk hb0);have hH0:=H0.out;have hH1:=H1.out;rw [if_neg (by rw [h45];decide)] at hH0 hH1;rw [hH0,hH1] at HP;clear hx hk HS1 hto H0 H1 hH0 hH1
   go_wp2_with fail
   refine (kFJ s (by omega) b0 _ 43 _ HS2.out.src hb0).mono ?_;rintro e w3 ⟨rfl,hx,hk⟩
   have hb3:isTo s b0 43≤s.size:=by
    unfold isTo
    split
    · rename_i q;exact kCR q
    · exact hb0
   have HS3:=hJ (HS2.out.step hx hk hb3);clear hx hk HS2;generalize isTo s b0 43=k0 at *
   go_wp2_with fail
   go_loopg [6] (s.size+1) (fun g sv wr=>∃ (k m:Nat) (sg:Int) (x:Lin) (v:Value),sv= .int .i64 sg∧(sg=1∨sg= -1)∧m≤k∧s.size<k+g∧Hid (AccOk m x)∧Hid (PSt s k x v w wr)∧Hid (kJ0 (kCD s) s g k sg x=res))
   case atStart=>exact ⟨k0,0,_,_,_,rfl,by decide,Nat.zero_le _,by omega,hJ (AccOk.zero 0),HS3,HP⟩
   case round =>
    clear HS3 HP;obtain ⟨k,m,sg,x,v,rfl,hsg,hmk,hkg,HA,HS,HLp⟩:=hrel;have hk:=HS.out.le;obtain ⟨g,rfl⟩:∃ g,gk=g+1:=⟨gk - 1,by omega⟩
    go_wp2_with fail
    refine (kBI s (by omega) k _ _ HS.out.src hk).mono ?_;rintro e w3 ⟨rfl,hx,hk3⟩;have hb0:blk s k≤s.size:=kFS hk;have hkb:k≤blk s k:=kB1 _ _ _;have HS3:=hJ (HS.out.step hx hk3 hb0);have hu:=HLp.out;rw [kJ0] at hu;clear hx hk3 HS HLp;generalize blk s k=b0 at *
    go_wp2_with fail
    refine (src_item s (by omega) b0 _ _ HS3.out.src hb0).mono ?_;rintro e w4 ⟨rfl,hx,hk4⟩;have HI:=hJ (HIt.out b0 hb0);generalize kCD s b0=r at *;obtain ⟨r1,r2,r3,r4⟩:=r;cases r3 with
    | false =>
      dsimp only at hu hx;rw [if_neg (by decide)] at hu;have HF:=hJ hu;have HRs:=hJ (HS3.out.res.kb hk4 (by omega));have HBl:=hJ (HS3.out.below.trans (hk4.below (by omega) HS3.out.below.size));clear hu hx hk4 HI HS3;have z0:=HRs.out.cell 0 _ rfl;have z1:=HRs.out.cell 1 _ rfl;have f0:=HRs.out.fz 0;have f1:=HRs.out.fz 1;have hl0:=HRs.out.lt;have HZz:=hJ ((HRs.out.set 0 (.int .i64 0)).set 1 (.slice none 0 0));have s0:=HZz.out.cell 0 _ rfl;have s1:=HZz.out.cell 1 _ rfl
      go_wp2_with fail
      refine bodyPost_ret (v:=.tuple #[.agg #[.int .i64 0,.slice none 0 0],.int .i64 6]) (by simp [results,results69,go_sem,s0,s1,hl0]) rfl ?_;exact ⟨⟨_,by rw [← HF.out];rfl,by rw [← HF.out];exact RLin.zero _ _⟩,(HBl.out.setCell (Nat.le_refl _) _).setCell (Nat.le_refl _) _⟩
    | true =>
      have HIo:=hJ (HI.out rfl);rw [if_pos rfl] at hu;have HS4:=hJ (HS3.out.step hx hk4 HIo.out.le);have HA2:=hJ (HA.out.next HIo.out hsg);have HL2:=hJ hu;have h1:=HIo.out.lo;have h2:=HIo.out.hi;have hbr:=HIo.out.ge;dsimp only at hbr;have hac:=HA.out.const;have hlen:=HA.out.len;have hbd:=HA.out.bd;dsimp only at h1 h2 HS4 HA2 HL2;have hb: -10000000≤sg * r1∧sg * r1≤10000000:=by rcases hsg with rfl | rfl <;> omega
      have hp1:IntKind.i64.wrap (sg * r1)=sg * r1:=by rw [IntKind.wrap_i64];omega
      have hp2: -9223372036854775808≤sg * r1:=by omega
      have hp3:sg * r1≤9223372036854775807:=by omega
      have hm9:(m:Int)≤900000:=by omega
      have o0:=HS4.out.out.cell 0 _ rfl;have o1:=HS4.out.out.cell 1 _ rfl;have of0:=HS4.out.out.fz 0;have of1:=HS4.out.out.fz 1;clear hu hx hk4 HI HS3 HA HIo;have hAc:∀ n u,kEX x n u=if u.toList.isEmpty then ⟨x.const+n,x.terms⟩ else ⟨x.const,plus x.terms u n⟩:=fun _ _=>rfl
      cases hem:r2.toList.isEmpty with
      | true =>
        have hw2:IntKind.i64.wrap (x.const+sg * r1)=x.const+sg * r1:=by rw [IntKind.wrap_i64];omega
        have hAc:=hAc (sg * r1) r2;rw [if_pos hem] at hAc;rw [hAc] at HA2 HL2;have HS5:=hJ (HS4.out.const (x.const+sg * r1));clear hAc hbd
        go_wp2_with fail
        clear HS4 o0 o1 of0 of1 hp1 hp2 hp3 hw2 hb h1 h2 hac hlen;generalize W5x:(w4.setCell ⟨w.heap.size+1+1,0,none⟩ (.int .i64 (x.const+sg * r1)))=W5 at *;generalize (⟨x.const+sg * r1,x.terms⟩:Lin)=acc at *;generalize v=va at *;refine (kBI s (by omega) r4 _ _ HS5.out.src HS5.out.le).mono ?_;rintro e w6 ⟨rfl,hx,hk⟩;have hb6:blk s r4≤s.size:=kFS HS5.out.le;have hrb:r4≤blk s r4:=kB1 _ _ _;have HS6:=hJ (HS5.out.step hx hk hb6);clear hx hk HS5;generalize blk s r4=b6 at *;have z0:=HS6.out.src.cell 0 _ rfl;have z1:=HS6.out.src.cell 1 _ rfl;have Z0:=Later.cell z0;have Z1:=Later.cell z1;by_cases hend:b6=s.size
        · have qe:((b6:Int)==(s.size:Int))=true:=beq_iff_eq.2 (by omega)
          have hf:=HL2.out;rw [if_pos hend] at hf;have HF:=hJ hf;have HSz:Hid (szL acc):=hJ (fun t ht=>Nat.le_trans (kCP (HA2.out.names t ht)) (by decide));clear hf HL2 hend HA2
          go_wp2_with fail
          refine kAA (by kernel_rfl) (by kernel_rfl) ?_
          repeat (go_big_quiet_step (fail))
          refine wpQuiet_nil ?_;rintro _ ⟨t9,rfl⟩;have HS7:=hJ (HS6.out.later t9.b);clear z0 z1 Z0 Z1 HS6;generalize t9.w=W7 at *;have o0:=HS7.out.out.cell 0 _ rfl;have o1:=HS7.out.out.cell 1 _ rfl
          go_wp2_with fail
          refine (kES (S:=fun q=>w.heap.size+1+1<q) (x:=acc) (cs:=[.int .i64 acc.const,va]) ⟨va,rfl,HS7.out.sl⟩ HSz.out).mono ?_;rintro e w8 ⟨⟨ds,rfl,hr⟩,hb8⟩;have HS8:=hJ (HS7.out.later hb8);clear hb8 HS7 o0 o1;have HFx:Hid (kEU (some acc)=limE acc∧kET (some acc)=limL acc):=hJ ⟨rfl,rfl⟩;generalize limL acc=lx at *;generalize limE acc=le at *;obtain ⟨t8,rfl,a8,c8,rfl,hs8⟩:=hr;have HSl8:=hJ hs8;clear hs8;have HRs:=hJ HS8.out.res;have HBl:=hJ HS8.out.below;have z0:=HRs.out.cell 0 _ rfl;have z1:=HRs.out.cell 1 _ rfl;have f0:=HRs.out.fz 0;have f1:=HRs.out.fz 1;have hl0:=HRs.out.lt;have HZz:=hJ ((HRs.out.set 0 (.int .i64 lx.const)).set 1 (.slice a8 lx.terms.length c8));have s0:=HZz.out.cell 0 _ rfl;have s1:=HZz.out.cell 1 _ rfl
          go_wp2_with fail
          refine bodyPost_ret (v:=.tuple #[.agg #[.int .i64 lx.const,.slice a8 lx.terms.length c8],.int .i64 le]) (by simp [results,results69,go_sem,s0,s1,hl0]) rfl ?_
          have hrd:RLin.rd (fun k=>w.heap.size≤k) ((w8.setCell ⟨w.heap.size,0,none⟩ (.int .i64 lx.const)).setCell ⟨w.heap.size,1,none⟩ (.slice a8 lx.terms.length c8)) [.int .i64 lx.const,.slice a8 lx.terms.length c8] lx:=⟨_,rfl,a8,c8,rfl,(HSl8.out.frame fun q hq _=>by
           have:w.heap.size+1+1<q:=hq;rw [kAB (by show w.heap.size≠q;omega),kAB (by show w.heap.size≠q;omega)]).mono (fun q hq _=>by have:w.heap.size+1+1<q:=hq;omega)⟩
          exact ⟨⟨_,by rw [← HF.out,HFx.out.1],by rw [← HF.out,HFx.out.2];exact hrd⟩,(HBl.out.setCell (Nat.le_refl _) _).setCell (Nat.le_refl _) _⟩
        · have qe:((b6:Int)==(s.size:Int))=false:=beq_eq_false_iff_ne.2 (by omega)
          have hf:=HL2.out;rw [if_neg hend] at hf;have HL3:=hJ hf;clear hf HL2 hend
          go_wp2_with fail
          refine kAA (by kernel_rfl) (by kernel_rfl) ?_
          repeat (go_big_quiet_step (fail))
          refine wpQuiet_nil ?_;rintro _ ⟨t9,rfl⟩;have HS7:=hJ (HS6.out.later t9.b);clear z0 z1 Z0 Z1 HS6;generalize t9.w=W7 at *
          go_wp2_with fail
          refine (kFJ s (by omega) b6 _ 45 _ HS7.out.src hb6).mono ?_;rintro e w8 ⟨rfl,hx,hk⟩;cases h45:isAt s b6 45 with
          | true =>
            have hto:isTo s b6 45=b6+1:=by unfold isTo;rw [h45];rfl
            have hb8:=kCR h45;rw [hto] at hx;have HS8:=hJ (HS7.out.step hx hk hb8);have hf:=HL3.out;rw [if_pos h45] at hf;have HF:=hJ hf;clear hf HL3 hx hk HS7 hto
            go_wp2_with fail
            go_roundg g
            case measure=>omega
            case rel=>exact ⟨b6+1,m+1,-1,acc,va,rfl,.inr rfl,by omega,by omega,HA2,HS8,HF⟩
          | false =>
            have hto:isTo s b6 45=b6:=by unfold isTo;rw [h45];rfl
            rw [hto] at hx;have HS8:=hJ (HS7.out.step hx hk hb6);have hf:=HL3.out;rw [if_neg (by rw [h45];decide)] at hf;have HL4:=hJ hf;clear hf HL3 hx hk HS7 hto
            go_wp2_with fail
            refine (kFJ s (by omega) b6 _ 43 _ HS8.out.src hb6).mono ?_;rintro e w10 ⟨rfl,hx,hk⟩;cases h43:isAt s b6 43 with
            | true =>
              have hto:isTo s b6 43=b6+1:=by unfold isTo;rw [h43];rfl
              have hb8:=kCR h43;rw [hto] at hx;have HS9:=hJ (HS8.out.step hx hk hb8);have hf:=HL4.out;rw [if_pos h43] at hf;have HF:=hJ hf;clear hf HL4 hx hk HS8 hto
              go_wp2_with fail
              go_roundg g
              case measure=>omega
              case rel=>exact ⟨b6+1,m+1,1,acc,va,rfl,.inl rfl,by omega,by omega,HA2,HS9,HF⟩
            | false =>
              have hto:isTo s b6 43=b6:=by unfold isTo;rw [h43];rfl
              rw [hto] at hx;have HS9:=hJ (HS8.out.step hx hk hb6);have hf:=HL4.out;rw [if_neg (by rw [h43];decide)] at hf;have HF:=hJ hf;clear hf HL4 hx hk HS8 hto;have HRs:=hJ HS9.out.res;have HBl:=hJ HS9.out.below;have z0:=HRs.out.cell 0 _ rfl;have z1:=HRs.out.cell 1 _ rfl;have f0:=HRs.out.fz 0;have f1:=HRs.out.fz 1;have hl0:=HRs.out.lt;have HZz:=hJ ((HRs.out.set 0 (.int .i64 0)).set 1 (.slice none 0 0));have s0:=HZz.out.cell 0 _ rfl;have s1:=HZz.out.cell 1 _ rfl
              go_wp2_with fail
              refine bodyPost_ret (v:=.tuple #[.agg #[.int .i64 0,.slice none 0 0],.int .i64 6]) (by simp [results,results69,go_sem,s0,s1,hl0]) rfl ?_;exact ⟨⟨_,by rw [← HF.out];rfl,by rw [← HF.out];exact RLin.zero _ _⟩,(HBl.out.setCell (Nat.le_refl _) _).setCell (Nat.le_refl _) _⟩
      | false =>
        have hAc:=hAc (sg * r1) r2;rw [if_neg (by rw [hem];decide)] at hAc;rw [hAc] at HA2 HL2;have hHb:∀ u ∈ x.terms,-9223372036854775808≤u.c+sg * r1∧u.c+sg * r1≤9223372036854775807:=fun u hu=>by have:=hbd u hu;omega
        have HHb:=hJ hHb;have HPl:=hJ (ref04_Plus (x:=x) (cs:=[.int .i64 x.const,v]) ⟨v,rfl,HS4.out.sl⟩ r2 (sg * r1) (by omega) hHb);clear hAc hHb hbd HHb
        go_wp2_with fail
        refine HPl.out.mono ?_;rintro e w5 ⟨⟨ds,rfl,hr⟩,hb5⟩;obtain ⟨_,rfl,a5,c5,rfl,hs5⟩:=hr;have HS5:=hJ (HS4.out.put (y:=⟨x.const,plus x.terms r2 (sg * r1)⟩) hb5 ⟨a5,c5,rfl,hs5⟩);dsimp only at hs5 HS5;generalize hL5:(plus x.terms r2 (sg * r1)).length=L5 at *;have ho5:=HS4.out.out.below hb5 HS4.out.out.lt;have p0:=ho5.cell 0 _ rfl;have p1:=ho5.cell 1 _ rfl;have p2:=ho5.fz 0;have p3:=ho5.fz 1;clear hs5 hb5 ho5 HPl hL5
        go_wp2_with fail
        clear HS4 o0 o1 of0 of1 hp1 hp2 hp3 hb h1 h2 hac hlen p0 p1 p2 p3;generalize W5x:((w5.setCell ⟨w.heap.size+1+1,0,none⟩ (.int .i64 x.const)).setCell ⟨w.heap.size+1+1,1,none⟩ (.slice a5 L5 c5))=W5 at *;generalize (⟨x.const,plus x.terms r2 (sg * r1)⟩:Lin)=acc at *;generalize Value.slice a5 L5 c5=va at *;refine (kBI s (by omega) r4 _ _ HS5.out.src HS5.out.le).mono ?_;rintro e w6 ⟨rfl,hx,hk⟩;have hb6:blk s r4≤s.size:=kFS HS5.out.le;have hrb:r4≤blk s r4:=kB1 _ _ _;have HS6:=hJ (HS5.out.step hx hk hb6);clear hx hk HS5;generalize blk s r4=b6 at *;have z0:=HS6.out.src.cell 0 _ rfl;have z1:=HS6.out.src.cell 1 _ rfl;have Z0:=Later.cell z0;have Z1:=Later.cell z1;by_cases hend:b6=s.size
        · have qe:((b6:Int)==(s.size:Int))=true:=beq_iff_eq.2 (by omega)
          have hf:=HL2.out;rw [if_pos hend] at hf;have HF:=hJ hf;have HSz:Hid (szL acc):=hJ (fun t ht=>Nat.le_trans (kCP (HA2.out.names t ht)) (by decide));clear hf HL2 hend HA2
          go_wp2_with fail
          refine kAA (by kernel_rfl) (by kernel_rfl) ?_
          repeat (go_big_quiet_step (fail))
          refine wpQuiet_nil ?_;rintro _ ⟨t9,rfl⟩;have HS7:=hJ (HS6.out.later t9.b);clear z0 z1 Z0 Z1 HS6;generalize t9.w=W7 at *;have o0:=HS7.out.out.cell 0 _ rfl;have o1:=HS7.out.out.cell 1 _ rfl
          go_wp2_with fail
          refine (kES (S:=fun q=>w.heap.size+1+1<q) (x:=acc) (cs:=[.int .i64 acc.const,va]) ⟨va,rfl,HS7.out.sl⟩ HSz.out).mono ?_;rintro e w8 ⟨⟨ds,rfl,hr⟩,hb8⟩;have HS8:=hJ (HS7.out.later hb8);clear hb8 HS7 o0 o1;have HFx:Hid (kEU (some acc)=limE acc∧kET (some acc)=limL acc):=hJ ⟨rfl,rfl⟩;generalize limL acc=lx at *;generalize limE acc=le at *;obtain ⟨t8,rfl,a8,c8,rfl,hs8⟩:=hr;have HSl8:=hJ hs8;clear hs8;have HRs:=hJ HS8.out.res;have HBl:=hJ HS8.out.below;have z0:=HRs.out.cell 0 _ rfl;have z1:=HRs.out.cell 1 _ rfl;have f0:=HRs.out.fz 0;have f1:=HRs.out.fz 1;have hl0:=HRs.out.lt;have HZz:=hJ ((HRs.out.set 0 (.int .i64 lx.const)).set 1 (.slice a8 lx.terms.length c8));have s0:=HZz.out.cell 0 _ rfl;have s1:=HZz.out.cell 1 _ rfl
          go_wp2_with fail
          refine bodyPost_ret (v:=.tuple #[.agg #[.int .i64 lx.const,.slice a8 lx.terms.length c8],.int .i64 le]) (by simp [results,results69,go_sem,s0,s1,hl0]) rfl ?_
          have hrd:RLin.rd (fun k=>w.heap.size≤k) ((w8.setCell ⟨w.heap.size,0,none⟩ (.int .i64 lx.const)).setCell ⟨w.heap.size,1,none⟩ (.slice a8 lx.terms.length c8)) [.int .i64 lx.const,.slice a8 lx.terms.length c8] lx:=⟨_,rfl,a8,c8,rfl,(HSl8.out.frame fun q hq _=>by
           have:w.heap.size+1+1<q:=hq;rw [kAB (by show w.heap.size≠q;omega),kAB (by show w.heap.size≠q;omega)]).mono (fun q hq _=>by have:w.heap.size+1+1<q:=hq;omega)⟩
          exact ⟨⟨_,by rw [← HF.out,HFx.out.1],by rw [← HF.out,HFx.out.2];exact hrd⟩,(HBl.out.setCell (Nat.le_refl _) _).setCell (Nat.le_refl _) _⟩
        · have qe:((b6:Int)==(s.size:Int))=false:=beq_eq_false_iff_ne.2 (by omega)
          have hf:=HL2.out;rw [if_neg hend] at hf;have HL3:=hJ hf;clear hf HL2 hend
          go_wp2_with fail
          refine kAA (by kernel_rfl) (by kernel_rfl) ?_
          repeat (go_big_quiet_step (fail))
          refine wpQuiet_nil ?_;rintro _ ⟨t9,rfl⟩;have HS7:=hJ (HS6.out.later t9.b);clear z0 z1 Z0 Z1 HS6;generalize t9.w=W7 at *
          go_wp2_with fail
          refine (kFJ s (by omega) b6 _ 45 _ HS7.out.src hb6).mono ?_;rintro e w8 ⟨rfl,hx,hk⟩;cases h45:isAt s b6 45 with
          | true =>
            have hto:isTo s b6 45=b6+1:=by unfold isTo;rw [h45];rfl
            have hb8:=kCR h45;rw [hto] at hx;have HS8:=hJ (HS7.out.step hx hk hb8);have hf:=HL3.out;rw [if_pos h45] at hf;have HF:=hJ hf;clear hf HL3 hx hk HS7 hto
            go_wp2_with fail
            go_roundg g
            case measure=>omega
            case rel=>exact ⟨b6+1,m+1,-1,acc,va,rfl,.inr rfl,by omega,by omega,HA2,HS8,HF⟩
          | false =>
            have hto:isTo s b6 45=b6:=by unfold isTo;rw [h45];rfl
            rw [hto] at hx;have HS8:=hJ (HS7.out.step hx hk hb6);have hf:=HL3.out;rw [if_neg (by rw [h45];decide)] at hf;have HL4:=hJ hf;clear hf HL3 hx hk HS7 hto
            go_wp2_with fail
            refine (kFJ s (by omega) b6 _ 43 _ HS8.out.src hb6).mono ?_;rintro e w10 ⟨rfl,hx,hk⟩;cases h43:isAt s b6 43 with
            | true =>
              have hto:isTo s b6 43=b6+1:=by unfold isTo;rw [h43];rfl
              have hb8:=kCR h43;rw [hto] at hx;have HS9:=hJ (HS8.out.step hx hk hb8);have hf:=HL4.out;rw [if_pos h43] at hf;have HF:=hJ hf;clear hf HL4 hx hk HS8 hto
              go_wp2_with fail
              go_roundg g
              case measure=>omega
              case rel=>exact ⟨b6+1,m+1,1,acc,va,rfl,.inl rfl,by omega,by omega,HA2,HS9,HF⟩
            | false =>
              have hto:isTo s b6 43=b6:=by unfold isTo;rw [h43];rfl
              rw [hto] at hx;have HS9:=hJ (HS8.out.step hx hk hb6);have hf:=HL4.out;rw [if_neg (by rw [h43];decide)] at hf;have HF:=hJ hf;clear hf HL4 hx hk HS8 hto;have HRs:=hJ HS9.out.res;have HBl:=hJ HS9.out.below;have z0:=HRs.out.cell 0 _ rfl;have z1:=HRs.out.cell 1 _ rfl;have f0:=HRs.out.fz 0;have f1:=HRs.out.fz 1;have hl0:=HRs.out.lt;have HZz:=hJ ((HRs.out.set 0 (.int .i64 0)).set 1 (.slice none 0 0));have s0:=HZz.out.cell 0 _ rfl;have s1:=HZz.out.cell 1 _ rfl
              go_wp2_with fail
              refine bodyPost_ret (v:=.tuple #[.agg #[.int .i64 0,.slice none 0 0],.int .i64 6]) (by simp [results,results69,go_sem,s0,s1,hl0]) rfl ?_;exact ⟨⟨_,by rw [← HF.out];rfl,by rw [← HF.out];exact RLin.zero _ _⟩,(HBl.out.setCell (Nat.le_refl _) _).setCell (Nat.le_refl _) _⟩
def comE (r:Str):Nat:=kB6 (fun i=> !(bt r i==44)) r.size 0
def kJ4 (n:Nat) (x:Str):Bool:=decide (n=0) && decide (2<x.size) && (x.extract (x.size - 2) x.size).toList==[46,46]
def stepR (n:Nat) (x:Str) (acc:Shp):Option Shp :=
 if kJ4 n x then some ⟨x.extract 0 (x.size - 2),acc.dims⟩
 else if kEU (kA5 (kCD x) x)=0∧¬ acc.dims.length=6 then some ⟨acc.row,acc.dims++[kET (kA5 (kCD x) x)]⟩ else none
def badT (t:Str):Bool:=decide (0<t.size) && (decide (t.size<3) || !(bt t 1==32))
def restT (t:Str):Str:=if 0<t.size then t.extract 2 t.size else t
def goPR:Nat→Str→Nat→Shp→Option Shp
 | 0,_,_,_=>none
 | g+1,r,n,acc =>
   if r.size=0 then some acc
   else if badT (r.extract (comE r) r.size) then none
   else match stepR n (r.extract 0 (comE r)) acc with
    | none=>none
    | some acc'=>goPR g (restT (r.extract (comE r) r.size)) (n+1) acc'
def okS (s:Str):Bool:= !decide (s.size<2) && (bt s 0==91 && bt s (s.size - 1)==93)
def readR (s:Str):Option Shp :=
 if okS s then
  match goPR s.size (s.extract 1 (s.size - 1)) 0 ⟨⟨#[]⟩,[]⟩ with
  | none=>none
  | some x=>if kAG x && (kA3 x).toList==s.toList then some x else none
 else none
theorem goPR_step (g:Nat) (r:Str) (n:Nat) (acc:Shp) (hr:r.size≠0):goPR (g+1) r n acc=if badT (r.extract (comE r) r.size) then none else match stepR n (r.extract 0 (comE r)) acc with | none=>none | some acc'=>goPR g (restT (r.extract (comE r) r.size)) (n+1) acc':=by
 show (if r.size=0 then _ else _)=_
 rw [if_neg hr]
 first | done | rfl
theorem dotS_list:dotS.toList=[46,46]:=by rw [ByteArray.toList_eq];rfl
theorem comE_app {p r:Str} (h:AllB kI8 p):comE (p++(comS++r))=p.size:=by
 unfold comE;refine kH6 p.size 0 p.size (by omega) (by rw [ByteArray.size_append];omega) (fun j _ hj=>?_) (fun _=>?_)
 · rw [kBL hj,beq_eq_false_iff_ne.2 (h.ne (c:=44) (by decide) hj)];rfl
 · have:=kDC (a:=p) (b:=comS) (c:=r) (k:=0) (by decide)
   rw [Nat.add_zero] at this;rw [this];decide
theorem comE_end {p:Str} (h:AllB kI8 p):comE p=p.size:=by
 unfold comE;refine kH6 p.size 0 p.size (by omega) (Nat.le_refl _) (fun j _ hj=>?_) (fun q=>by omega);rw [beq_eq_false_iff_ne.2 (h.ne (c:=44) (by decide) hj)];rfl
theorem whole (p:Str):p.extract 0 p.size=p:=by
 have:=kFQ (a:=p) (b:=⟨#[]⟩)
 rwa [kCZ] at this
theorem goPR_piece (g:Nat) (p:Str) (l:List Str) (n:Nat) (acc:Shp) (hp:AllB kI8 p) (h0:p.toList.isEmpty=false) (hl:∀ y ∈ l,y.toList.isEmpty=false) :
 goPR (g+1) (kAO (p :: l) comS) n acc=match stepR n p acc with | none=>none | some acc'=>goPR g (kAO l comS) (n+1) acc':=by
 have hz:=kDQ h0;cases l with
 | nil =>
   rw [kCH,goPR_step _ _ _ _ (by omega),comE_end hp,whole]
   have e:p.extract p.size p.size=⟨#[]⟩:=by
    have:=kFV (a:=p) (b:=⟨#[]⟩)
    rwa [kCZ] at this
   rw [e];rfl
 | cons y l =>
   have hj:0<(kAO (y :: l) comS).size:=kDQ (by rw [kE1 hl];rfl);rw [kC9,goPR_step _ _ _ _ (by rw [ByteArray.size_append];omega),comE_app hp,kFQ,kFV];have e1:(comS++kAO (y :: l) comS).size=2+(kAO (y :: l) comS).size:=by rw [ByteArray.size_append];rfl
   have e2:bt (comS++kAO (y :: l) comS) 1=32:=by rw [kBL (by decide)];decide
   have e3:badT (comS++kAO (y :: l) comS)=false:=by
    unfold badT;rw [e1,e2,decide_eq_false (by omega:¬ 2+(kAO (y :: l) comS).size<3)];simp
   have e4:restT (comS++kAO (y :: l) comS)=kAO (y :: l) comS:=by
    unfold restT;rw [if_pos (by omega)];exact kFV (a:=comS)
   rw [e3,e4];rfl
theorem last_two {p:Str} {P:Int→Bool} (h:AllB P p) (hp:P 46=false) (h2:2<p.size):((p.extract (p.size - 2) p.size).toList==[46,46])=false:=by
 cases hc:((p.extract (p.size - 2) p.size).toList==[46,46]) with
 | false=>rfl
 | true =>
   have e:p.extract (p.size - 2) p.size=⟨#[46,46]⟩:=(kA4 _ ⟨#[46,46]⟩).1 (by unfold seq;rw [beq_iff_eq.1 hc,ByteArray.toList_eq];rfl);have e2:=kJK p (a:=p.size - 2) (b:=p.size) (i:=0) (Nat.le_refl _) (by omega);rw [e] at e2;exact absurd e2.symm (h.ne (c:=46) hp (by omega))
theorem step_dim {n:Nat} {d:Lin} {acc:Shp} (hv:kAC d=true) (hl:acc.dims.length<6):stepR n (kAF d) acc=some ⟨acc.row,acc.dims++[d]⟩:=by
 obtain ⟨r1,r2⟩:=kJW itemR_law hv
 have hr:kJ4 n (kAF d)=false:=by
  unfold kJ4;by_cases h2:2<(kAF d).size
  · rw [last_two (kD4 hv) (by decide) h2,Bool.and_false]
  · rw [decide_eq_false h2,Bool.and_false,Bool.false_and]
 unfold stepR;rw [hr,r1,r2,if_neg Bool.false_ne_true,if_pos ⟨rfl,by omega⟩]
theorem goPR_dims:∀ (ds:List Lin) (g n:Nat) (acc:Shp),(∀ d ∈ ds,kAC d=true)→acc.dims.length+ds.length≤6→ds.length<g→goPR g (kAO (ds.map kAF) comS) n acc=some ⟨acc.row,acc.dims++ds⟩
 | [],g,n,acc,_,_,hg=>by
   obtain ⟨g,rfl⟩:∃ m,g=m+1:=⟨g - 1,by have:0<g:=hg;omega⟩
   rw [List.append_nil];rfl
 | d :: ds,g,n,acc,h,hl,hg=>by
   rw [List.length_cons] at hl hg;obtain ⟨g,rfl⟩:∃ m,g=m+1:=⟨g - 1,by omega⟩
   have hv:=h d (List.mem_cons_self ..)
   rw [List.map_cons,goPR_piece g _ _ n acc ((kD4 hv).mono fun c=>kHR) (kD5 hv) (fun y hy=>by
    obtain ⟨q,hq,rfl⟩:=List.mem_map.1 hy;exact kD5 (h q (List.mem_cons_of_mem _ hq))),step_dim hv (by omega)]
   show goPR g (kAO (ds.map kAF) comS) (n+1) ⟨acc.row,acc.dims++[d]⟩=_
   rw [goPR_dims ds g (n+1) _ (fun q hq=>h q (List.mem_cons_of_mem _ hq)) (by show (acc.dims++[d]).length+_≤_;rw [List.length_append,List.length_singleton];omega) (by omega)]
   show some (⟨acc.row,(acc.dims++[d])++ds⟩:Shp)=_
   rw [List.append_assoc];rfl
theorem join_len {sep:Str}:∀ (l:List Str),(∀ y ∈ l,y.toList.isEmpty=false)→l.length≤(kAO l sep).size
 | [],_=>Nat.zero_le _
 | [x],h=>by
   have:=kDQ (h x (List.mem_cons_self ..));rw [kCH];exact this
 | x :: y :: l,h=>by
   have h1:=kDQ (h x (List.mem_cons_self ..));have ih:=join_len (sep:=sep) (y :: l) (fun z hz=>h z (List.mem_cons_of_mem _ hz));rw [kC9,ByteArray.size_append,ByteArray.size_append,List.length_cons];omega
theorem readR_back {x:Shp} (h:kAG x=true):readR (kA3 x)=some x:=by
 obtain ⟨h6,hd⟩:=kCK h;have hp:=kGY h;have hlen:=join_len (sep:=comS) _ (fun y hy=>(hp y hy).2)
 have hsz:(kA3 x).size=(kAO (rowL x++x.dims.map kAF) comS).size+2:=by
  unfold kA3;rw [ByteArray.size_append,ByteArray.size_append]
  show 1+(kAO (rowL x++x.dims.map kAF) comS).size+1=_
  omega
 have htx:kA3 x=(⟨#[91]⟩:Str)++(kAO (rowL x++x.dims.map kAF) comS++⟨#[93]⟩):=by unfold kA3;rw [ByteArray.append_assoc];rfl
 have hin:(kA3 x).extract 1 ((kA3 x).size - 1)=kAO (rowL x++x.dims.map kAF) comS:=by
  rw [hsz,htx];have:=kD6 (a:=⟨#[91]⟩) (b:=kAO (rowL x++x.dims.map kAF) comS) (c:=⟨#[93]⟩);rw [show (⟨#[91]⟩:Str).size=1 from rfl] at this;rw [show (kAO (rowL x++x.dims.map kAF) comS).size+2 - 1=1+(kAO (rowL x++x.dims.map kAF) comS).size by omega];exact this
 have hok:okS (kA3 x)=true:=by
  unfold okS;have b0:bt (kA3 x) 0=91:=by rw [htx,kBL (by decide)];decide
  have b1:bt (kA3 x) ((kA3 x).size - 1)=93:=by
   rw [hsz];unfold kA3;have:=kC1 (a:=(⟨#[91]⟩:Str)++kAO (rowL x++x.dims.map kAF) comS) (b:=⟨#[93]⟩) (k:=0) (by decide);rw [ByteArray.size_append,show (⟨#[91]⟩:Str).size=1 from rfl] at this;rw [show (kAO (rowL x++x.dims.map kAF) comS).size+2 - 1=1+(kAO (rowL x++x.dims.map kAF) comS).size+0 by omega];exact this
  rw [b0,b1,decide_eq_false (by omega)];rfl
 have hrun:goPR (kA3 x).size (kAO (rowL x++x.dims.map kAF) comS) 0 ⟨⟨#[]⟩,[]⟩=some x:=by
  rw [List.length_append,List.length_map] at hlen;by_cases hr:x.row.toList.isEmpty=true
  · have e1:rowL x=[]:=by unfold rowL;rw [if_pos hr]
    rw [e1] at hlen hsz ⊢;rw [List.nil_append] at hsz ⊢;rw [goPR_dims x.dims _ 0 ⟨⟨#[]⟩,[]⟩ hd (by show 0+_≤_;omega) (by rw [e1,List.nil_append] at *;omega),List.nil_append];rw [← kD8 hr]
  · have e1:rowL x=[x.row++dotS]:=by unfold rowL;rw [if_neg hr];rfl
    have hpr:=hp (x.row++dotS) (by rw [e1];exact List.mem_append.2 (.inl (List.mem_cons_self ..)));rw [e1] at hlen hsz ⊢;obtain ⟨g,hg⟩:∃ g,(kA3 x).size=g+1:=⟨(kA3 x).size - 1,by omega⟩
    rw [hg]
    show goPR (g+1) (kAO ((x.row++dotS) :: x.dims.map kAF) comS) 0 ⟨⟨#[]⟩,[]⟩=_
    rw [goPR_piece g _ _ 0 _ hpr.1 hpr.2 (fun y hy=>by
     obtain ⟨q,hq,rfl⟩:=List.mem_map.1 hy;exact kD5 (hd q hq))]
    have hrw:0<x.row.size:=kDQ (by simpa using hr);have e2:(x.row++dotS).size=x.row.size+2:=by rw [ByteArray.size_append];rfl
    have e3:stepR 0 (x.row++dotS) ⟨⟨#[]⟩,[]⟩=some ⟨x.row,[]⟩:=by
     unfold stepR
     have hw:kJ4 0 (x.row++dotS)=true:=by
      unfold kJ4;rw [e2,decide_eq_true (by omega:2<x.row.size+2),Nat.add_sub_cancel,← e2,kFV,dotS_list];rfl
     rw [if_pos hw,e2,Nat.add_sub_cancel,kFQ]
    rw [e3]
    show goPR g (kAO (x.dims.map kAF) comS) 1 ⟨x.row,[]⟩=_
    rw [goPR_dims x.dims g 1 ⟨x.row,[]⟩ hd (by show 0+_≤_;omega) (by simp only [List.length_cons,List.length_nil] at hlen;rw [hg] at hsz;simp only [List.cons_append,List.nil_append] at hsz hlen;omega)];rfl
 unfold readR;rw [hok,hin,hrun]
 show (if kAG x && (kA3 x).toList==(kA3 x).toList then some x else none)=_
 rw [h];simp
theorem readR_sound {s:Str} {x:Shp} (h:readR s=some x):kAG x=true∧kA3 x=s:=by
 unfold readR at h
 split at h
 · split at h
   · cases h
   · split at h
     · rename_i y _ hc
       obtain rfl:=Option.some.inj h;rw [Bool.and_eq_true] at hc;exact ⟨hc.1,(kA4 _ _).1 hc.2⟩
     · cases h
 · cases h
theorem readR_eq (s:Str):readR s=kGB s:=by
 cases h:kGB s with
 | some x =>
   obtain ⟨h1,rfl⟩:=readH_sound h;exact readR_back h1
 | none =>
   cases h2:readR s with
   | none=>rfl
   | some x =>
     obtain ⟨h1,rfl⟩:=readR_sound h2;rw [kGA h1] at h;cases h
def kDV (s:Str):Nat:=(Lib.indexByte s.data.toList 93+1).toNat
def kHS (s:Str) (k:Nat):Nat:=(List.range k).foldl (fun a i=>if bt s i==93 then i+1 else a) 0
def kIT (s:Str) (k:Nat):Option Shp:=if 0<k then kGB (s.extract 0 k) else some ⟨⟨#[]⟩,[]⟩
def readK (s:Str) (k:Nat):Option Typ:=match kIT s k with
 | none=>none
 | some x=>if kAD ⟨s.extract k s.size,x⟩ && (kAQ ⟨s.extract k s.size,x⟩).toList==s.toList then some ⟨s.extract k s.size,x⟩ else none
def kBS (s:Str):Option Typ:=readK s (kDV s)
theorem kID (s:Str) (k:Nat):kHS s (k+1)=if bt s k==93 then k+1 else kHS s k:=by
 unfold kHS;rw [List.range_succ,List.foldl_append];rfl
theorem kDJ {s:Str} {k:Nat} {t:Typ} (h:readK s k=some t):kAD t=true∧kAQ t=s:=by
 unfold readK at h
 split at h
 · cases h
 · split at h
   · rename_i y _ hc
     obtain rfl:=Option.some.inj h;rw [Bool.and_eq_true] at hc;exact ⟨hc.1,(kA4 _ _).1 hc.2⟩
   · cases h
def elC (c:Int):Bool:=kAP c || (kAW c || decide (65≤c∧c≤90))
theorem el_noSep {c:Int} (h:elC c=true):kI8 c=true:=by
 unfold elC kAP kAW at h;unfold kI8;simp at h ⊢;omega
theorem elemVar_bytes {s:Str} (h:kAU s=true):0<s.size∧(65≤bt s 0∧bt s 0≤90)∧∀ i,0<i→i<s.size→kAP (bt s i)=true:=by
 unfold kAU at h;rw [Bool.and_eq_true,Bool.and_eq_true] at h;have h1:=of_decide_eq_true h.1;refine ⟨by omega,of_decide_eq_true h.2.1,fun i h0 hi=>?_⟩;have:=List.all_eq_true.1 h.2.2 i (List.mem_range.2 hi);rw [Bool.or_eq_true,beq_iff_eq] at this;rcases this with q | q
 · omega
 · exact q
theorem elem_elC {s:Str} (h:kFE s=true):AllB elC s∧0<s.size:=by
 unfold kFE at h;rw [Bool.or_eq_true,Bool.or_eq_true] at h;have hcl:∀ (l:List UInt8),(s.toList==l)=true→s.data.toList=l:=fun l q=>by rw [← ByteArray.toList_eq];exact beq_iff_eq.1 q
 rcases h with h | h | h
 · have e:=hcl _ h
   refine ⟨fun c hc=>?_,?_⟩
   · rw [e] at hc;revert c;decide
   · have:s.data.toList.length=s.size:=by rw [Array.length_toList];rfl
     rw [← this,e];decide
 · have e:=hcl _ h
   refine ⟨fun c hc=>?_,?_⟩
   · rw [e] at hc;revert c;decide
   · have:s.data.toList.length=s.size:=by rw [Array.length_toList];rfl
     rw [← this,e];decide
 · obtain ⟨h1,h2,h3⟩:=elemVar_bytes h
   refine ⟨AllB.of fun i hi=>?_,h1⟩;unfold elC;rcases Nat.eq_zero_or_pos i with rfl | q
   · rw [decide_eq_true h2];simp
   · rw [h3 i q hi];rfl
theorem textH_inj {x y:Shp} (hx:kAG x=true) (hy:kAG y=true) (h:kA3 x=kA3 y):x=y:=by
 have h1:=kGA hx;rw [h,kGA hy] at h1;exact (Option.some.inj h1).symm
theorem noShp_ok:kAG kDH=true∧kA3 kDH=⟨#[91,93]⟩:=by
 refine ⟨?_,?_⟩
 · unfold kAG rowB kDH
   show (((⟨#[]⟩:Str).toList.isEmpty || _) && _)=true
   rw [kGD];rfl
 · unfold kA3 rowL kDH
   rw [if_pos kGD];rfl
theorem kDE {t:Typ} (h:kAD t=true):kFE t.elem=true∧kAG t.shape=true:=by
 unfold kAD at h
 rwa [Bool.and_eq_true] at h
theorem kD0 {t:Typ} (h:kAD t=true):(t.shape=kDH∧kAQ t=t.elem)∨(kAQ t=kA3 t.shape++t.elem):=by
 obtain ⟨h1,h2⟩:=kDE h;unfold kAQ;have e:kCC t.shape=kA3 t.shape:=by unfold kCC;rw [if_pos h2]
 rw [e];by_cases hq:((kA3 t.shape).toList==[91,93])=true
 · refine .inl ⟨textH_inj h2 noShp_ok.1 ?_,if_pos hq⟩
   rw [noShp_ok.2];exact (kA4 _ ⟨#[91,93]⟩).1 (by unfold seq;rw [beq_iff_eq.1 hq,ByteArray.toList_eq];rfl)
 · exact .inr (if_neg hq)
theorem kF0 {x:Shp} (h:kAG x=true):∃ i:Str,kA3 x=(⟨#[91]⟩:Str)++(i++⟨#[93]⟩)∧(∀ j,j<i.size→bt i j≠93∧bt i j≠91∧bt i j≠10∧bt i j≠41∧bt i j≠58)∧∀ j,j<i.size→bt i j=32→0<j∧bt i (j - 1)=44:=by
 refine ⟨kAO (rowL x++x.dims.map kAF) comS,by unfold kA3;rw [ByteArray.append_assoc];rfl,?_⟩;have hp:=kGY h;generalize rowL x++x.dims.map kAF=l at hp
 have:∀ (l:List Str),(∀ y ∈ l,AllB kI8 y∧y.toList.isEmpty=false)→(∀ j,j<(kAO l comS).size→bt (kAO l comS) j≠93∧bt (kAO l comS) j≠91∧bt (kAO l comS) j≠10∧bt (kAO l comS) j≠41∧bt (kAO l comS) j≠58)∧∀ j,j<(kAO l comS).size→bt (kAO l comS) j=32→0<j∧bt (kAO l comS) (j - 1)=44:=by
  intro l
  induction l with
  | nil=>exact fun _=>⟨fun j hj=>(by cases hj),fun j hj=>(by cases hj)⟩
  | cons x l ih =>
    intro h;have hx:=(h x (List.mem_cons_self ..)).1;have hne:∀ j,j<x.size→bt x j≠93∧bt x j≠91∧bt x j≠10∧bt x j≠41∧bt x j≠58∧bt x j≠32:=fun j hj=>⟨hx.ne (by decide) hj,hx.ne (by decide) hj,hx.ne (by decide) hj,hx.ne (by decide) hj,hx.ne (by decide) hj,hx.ne (by decide) hj⟩
    cases l with
    | nil =>
      rw [kCH];exact ⟨fun j hj=>⟨(hne j hj).1,(hne j hj).2.1,(hne j hj).2.2.1,(hne j hj).2.2.2.1,(hne j hj).2.2.2.2.1⟩,fun j hj e=>absurd e (hne j hj).2.2.2.2.2⟩
    | cons y l =>
      obtain ⟨i1,i2⟩:=ih (fun z hz=>h z (List.mem_cons_of_mem _ hz));rw [kC9];generalize kAO (y :: l) comS=r at i1 i2;have hc:comS.size=2:=rfl;have hsz:(x++(comS++r)).size=x.size+(2+r.size):=by rw [ByteArray.size_append,ByteArray.size_append,hc]
      have b0:bt (x++(comS++r)) x.size=44:=by
       have:=kDC (a:=x) (b:=comS) (c:=r) (k:=0) (by decide);rw [Nat.add_zero] at this;rw [this];decide
      have b1:bt (x++(comS++r)) (x.size+1)=32:=by
       rw [kDC (a:=x) (b:=comS) (c:=r) (k:=1) (by decide)];decide
      have br:∀ k,k<r.size→bt (x++(comS++r)) (x.size+(2+k))=bt r k:=fun k hk=>by
       rw [kC1 (by rw [ByteArray.size_append,hc];omega)];exact kC1 (a:=comS) hk
      refine ⟨fun j hj=>?_,fun j hj e=>?_⟩
      · rcases Nat.lt_or_ge j x.size with q | q
        · rw [kBL q]
          exact ⟨(hne j q).1,(hne j q).2.1,(hne j q).2.2.1,(hne j q).2.2.2.1,(hne j q).2.2.2.2.1⟩
        · obtain rfl | rfl | ⟨k,rfl⟩:j=x.size∨j=x.size+1∨∃ k,j=x.size+(2+k):=by
           rcases Nat.lt_or_ge j (x.size+2) with g | g
           · omega
           · exact .inr (.inr ⟨j - x.size - 2,by omega⟩)
          · rw [b0];decide
          · rw [b1];decide
          · rw [br k (by omega)];exact i1 k (by omega)
      · rcases Nat.lt_or_ge j x.size with q | q
        · rw [kBL q] at e
          exact absurd e (hne j q).2.2.2.2.2
        · obtain rfl | rfl | ⟨k,rfl⟩:j=x.size∨j=x.size+1∨∃ k,j=x.size+(2+k):=by
           rcases Nat.lt_or_ge j (x.size+2) with g | g
           · omega
           · exact .inr (.inr ⟨j - x.size - 2,by omega⟩)
          · rw [b0] at e;cases e
          · exact ⟨by omega,by rw [Nat.add_sub_cancel];exact b0⟩
          · rw [br k (by omega)] at e
            obtain ⟨k0,k1⟩:=i2 k (by omega) e;refine ⟨by omega,?_⟩;rw [show x.size+(2+k) - 1=x.size+(2+(k - 1)) by omega,br (k - 1) (by omega)];exact k1
 exact this l hp
theorem firstK_at {a r:Str} (h:∀ j,j<a.size→bt a j≠93):kDV (a++((⟨#[93]⟩:Str)++r))=a.size+1:=by
 unfold kDV
 have hl:∀ (l m:List UInt8),(∀ c ∈ l,c≠93)→Lib.indexByte (l++93 :: m) 93=(l.length:Int):=by
  intro l m
  induction l with
  | nil=>intro _;rfl
  | cons c l ih =>
    intro h;have hc:(c==93)=false:=beq_eq_false_iff_ne.2 (h c (List.mem_cons_self ..))
    show (if c==93 then (0:Int) else if Lib.indexByte (l++93 :: m) 93== -1 then -1 else Lib.indexByte (l++93 :: m) 93+1)=_
    rw [ih (fun q hq=>h q (List.mem_cons_of_mem _ hq)),hc,if_neg Bool.false_ne_true,if_neg (by rw [beq_eq_false_iff_ne.2 (by omega)];exact Bool.false_ne_true),List.length_cons];omega
 rw [kEW,kEW]
 show (Lib.indexByte (a.data.toList++93 :: r.data.toList) 93+1).toNat=_
 rw [hl _ _ (fun c hc e=>by
  obtain ⟨i,hi⟩:=List.getElem?_of_mem hc
  have hlt:i<a.size:=by
   rcases Nat.lt_or_ge i a.data.toList.length with q | q
   · exact q
   · rw [List.getElem?_eq_none q] at hi;cases hi
  have:=kKJ a i c hi;rw [e] at this;exact h i hlt this),show a.data.toList.length=a.size from rfl]
 omega
theorem firstK_no {a:Str} (h:∀ j,j<a.size→bt a j≠93):kDV a=0:=by
 unfold kDV
 have hl:∀ (l:List UInt8),(∀ c ∈ l,c≠93)→Lib.indexByte l 93= -1:=by
  intro l
  induction l with
  | nil=>intro _;rfl
  | cons c l ih =>
    intro h;have hc:(c==93)=false:=beq_eq_false_iff_ne.2 (h c (List.mem_cons_self ..))
    show (if c==93 then (0:Int) else if Lib.indexByte l 93== -1 then -1 else Lib.indexByte l 93+1)=_
    rw [ih (fun q hq=>h q (List.mem_cons_of_mem _ hq)),hc];rfl
 rw [hl _ (fun c hc e=>by
  obtain ⟨i,hi⟩:=List.getElem?_of_mem hc
  have hlt:i<a.size:=by
   rcases Nat.lt_or_ge i a.data.toList.length with q | q
   · exact q
   · rw [List.getElem?_eq_none q] at hi;cases hi
  have:=kKJ a i c hi;rw [e] at this;exact h i hlt this)]
 rfl
theorem lastK_stay {s:Str} {k:Nat}:∀ (d:Nat),(∀ j,k≤j→j<k+d→bt s j≠93)→kHS s (k+d)=kHS s k
 | 0,_=>rfl
 | d+1,h=>by
   rw [← Nat.add_assoc,kID,if_neg (by rw [beq_eq_false_iff_ne.2 (h (k+d) (by omega) (by omega))];exact Bool.false_ne_true)];exact lastK_stay d (fun j h1 h2=>h j h1 (by omega))
theorem kIQ {t:Typ} (h:kAD t=true):∃ k,kDV (kAQ t)=k∧kHS (kAQ t) (kAQ t).size=k∧kIT (kAQ t) k=some t.shape∧(kAQ t).extract k (kAQ t).size=t.elem:=by
 obtain ⟨h1,h2⟩:=kDE h;obtain ⟨he,_⟩:=elem_elC h1;rcases kD0 h with ⟨e1,e2⟩ | e2
 · rw [e2,e1]
   refine ⟨0,firstK_no fun j hj=>he.ne (by decide) hj,?_,rfl,whole _⟩;have:=lastK_stay (s:=t.elem) (k:=0) t.elem.size (fun j _ hj=>he.ne (by decide) (by omega));rw [Nat.zero_add] at this;rw [this];rfl
 · obtain ⟨i,f1,f2,_⟩:=kF0 h2
   have e3:kAQ t=((⟨#[91]⟩:Str)++i)++((⟨#[93]⟩:Str)++t.elem):=by rw [e2,f1];simp only [ByteArray.append_assoc]
   have hb:∀ j,j<((⟨#[91]⟩:Str)++i).size→bt ((⟨#[91]⟩:Str)++i) j≠93:=fun j hj=>by
    rw [ByteArray.size_append,show (⟨#[91]⟩:Str).size=1 from rfl] at hj;rcases Nat.eq_zero_or_pos j with rfl | q
    · rw [kBL (by decide)];decide
    · obtain ⟨m,rfl⟩:∃ m,j=1+m:=⟨j - 1,by omega⟩
      have:=kC1 (a:=(⟨#[91]⟩:Str)) (b:=i) (k:=m) (by omega);rw [show (⟨#[91]⟩:Str).size=1 from rfl] at this;rw [this];exact (f2 m (by omega)).1
   have hk:(kA3 t.shape).size=((⟨#[91]⟩:Str)++i).size+1:=by rw [f1,← ByteArray.append_assoc,ByteArray.size_append];rfl
   refine ⟨(kA3 t.shape).size,?_,?_,?_,?_⟩
   · rw [e3,hk];exact firstK_at hb
   · rw [show (kAQ t).size=(kA3 t.shape).size+t.elem.size by rw [e2,ByteArray.size_append],lastK_stay (k:=(kA3 t.shape).size) _ (fun j h1 h2=>by
      obtain ⟨m,rfl⟩:∃ m,j=(kA3 t.shape).size+m:=⟨j - (kA3 t.shape).size,by omega⟩
      rw [e2,kC1 (by omega)];exact he.ne (by decide) (by omega)),hk,kID,if_pos]
     · rw [e3]
       have:=kDC (a:=(⟨#[91]⟩:Str)++i) (b:=(⟨#[93]⟩:Str)) (c:=t.elem) (k:=0) (by decide);rw [Nat.add_zero] at this;rw [this];decide
   · unfold kIT
     rw [if_pos (by omega),e2,kFQ];exact kGA h2
   · rw [e2];exact kFV
theorem kDM {t:Typ} (h:kAD t=true):kBS (kAQ t)=some t∧readK (kAQ t) (kHS (kAQ t) (kAQ t).size)=some t:=by
 obtain ⟨k,k1,k2,k3,k4⟩:=kIQ h
 have:readK (kAQ t) k=some t:=by
  unfold readK;rw [k3,k4]
  show (if kAD t && (kAQ t).toList==(kAQ t).toList then some t else none)=_
  rw [h];simp
 exact ⟨by unfold kBS;rw [k1];exact this,by rw [k2];exact this⟩
theorem readK_eq (s:Str):readK s (kHS s s.size)=kBS s:=by
 cases h:kBS s with
 | some t =>
   obtain ⟨h1,rfl⟩:=kDJ h;exact (kDM h1).2
 | none =>
   cases h2:readK s (kHS s s.size) with
   | none=>rfl
   | some t =>
     obtain ⟨h1,rfl⟩:=kDJ h2;rw [(kDM h1).1] at h;cases h
def optT (o:Option Typ):Typ:=match o with
 | none=>kBJ
 | some t=>t
theorem index_lt {s:Str} {i:Nat} (h:Lib.indexByte s.data.toList 93=(i:Int)):i<s.size:=by
 have h1:=(Lib.indexByte_some h).1;rcases Nat.lt_or_ge i s.data.toList.length with q | q
 · exact q
 · rw [List.getElem?_eq_none q] at h1;cases h1
theorem elemB_sz {s:Str} (h:kFE s=true):s.size≤30:=by
 unfold kFE at h;rw [Bool.or_eq_true,Bool.or_eq_true] at h
 have hcl:∀ (l:List UInt8),(s.toList==l)=true→s.size=l.length:=fun l q=>by
  rw [← beq_iff_eq.1 q,ByteArray.toList_eq,Array.length_toList];rfl
 rcases h with h | h | h
 · rw [hcl _ h];decide
 · rw [hcl _ h];decide
 · unfold kAU at h
   rw [Bool.and_eq_true] at h;have:=of_decide_eq_true h.1;omega
theorem readH_sz {s:Str} {x:Shp} (h:kGB s=some x):szH x:=by
 obtain ⟨h1,_⟩:=readH_sound h;refine ⟨?_,fun d hd=>kHG ((kCK h1).2 d hd)⟩;rcases row_name h1 with q | q
 · rw [kD8 q];decide
 · exact Nat.le_trans (kCP q) (by decide)
theorem shape_Parse_some {s:Str} {x:Shp} (h:kGB s=some x) (hs:s.size≤1000000) (hp:∀ x ∈ kBU (kB3 s) comS,x.size≤900) (w:World) (E:EnvM w) :
 Calls Tryz.prog 86 #[.string s] w fun e w'=>(∃ ds,e= .returned (.tuple #[.agg ds.toArray,.int .i64 0])∧RShp.rd (fun k=>w.heap.size≤k) w' ds x)∧Below w.heap.size w w':=by
 have:=shape_Parse s hs hp w E;rw [h] at this;exact this
theorem shape_Parse_none {s:Str} (h:kGB s=none) (hs:s.size≤1000000) (hp:∀ x ∈ kBU (kB3 s) comS,x.size≤900) (w:World) (E:EnvM w) :
 Calls Tryz.prog 86 #[.string s] w fun e w'=>(∃ ds,e= .returned (.tuple #[.agg ds.toArray,.int .i64 6])∧RShp.rd (fun k=>w.heap.size≤k) w' ds kDH)∧Below w.heap.size w w':=by
 have:=shape_Parse s hs hp w E;rw [h] at this;exact this
theorem kGO (s:Str) (hs:s.size≤10000) (hp:∀ x ∈ kBU (kB3 (s.extract 0 (kDV s))) comS,x.size≤900) (w:World) (E:EnvM w) :
 Calls Tryz.prog 36 #[.string s] w fun e w'=>(∃ ds,e= .returned (.tuple #[.agg ds.toArray,.int .i64 (optE (kBS s))])∧RTyp.rd (fun k=>w.heap.size≤k) w' ds (optT (kBS s)))∧Below w.heap.size w w':=by
 have HE:=hJ E;have h8:8≤w.heap.size:=E.env.big;have HR:Hid (kBS s=match kIT s (kDV s) with | none=>none | some x=>if kAD ⟨s.extract (kDV s) s.size,x⟩ && (kAQ ⟨s.extract (kDV s) s.size,x⟩).toList==s.toList then some ⟨s.extract (kDV s) s.size,x⟩ else none):=hJ rfl;have HK:Hid (kDV s=(Lib.indexByte s.data.toList 93+1).toNat):=hJ rfl;have HI:=fun W=>Tryz.strings_IndexByte s 93 W
 change ∀ W,Calls _ _ _ W fun e w'=>e= .returned (.int .i64 (Lib.indexByte s.data.toList 93))∧_ at HI
 have HI:=hJ HI;have HP:=hJ hp;have hge:=Lib.indexByte_ge s.data.toList 93;have hlt:∀ i:Nat,Lib.indexByte s.data.toList 93=(i:Int)→i<s.size:=fun i=>index_lt
 clear E hp;generalize kBS s=res at *;have HRb:=hJ (Bx.fresh w 26 [.string ⟨#[]⟩,.string ⟨#[]⟩,.slice none 0 0]);have HOb:=hJ (Bx.fresh (w.alloc (.cells #[.string ⟨#[]⟩,.string ⟨#[]⟩,.slice none 0 0] 26)) 26 [.string s,.string ⟨#[]⟩,.slice none 0 0]);have e1:(w.alloc (.cells #[.string ⟨#[]⟩,.string ⟨#[]⟩,.slice none 0 0] 26)).heap.size=w.heap.size+1:=by simp
 have HBl:=hJ (((Below.refl _ w).alloc (Nat.le_refl _) (.cells #[.string ⟨#[]⟩,.string ⟨#[]⟩,.slice none 0 0] 26)).alloc (by rw [e1];omega) (.cells #[.string s,.string ⟨#[]⟩,.slice none 0 0] 26));replace HRb:=hJ (HRb.out.alloc (.cells #[.string s,.string ⟨#[]⟩,.slice none 0 0] 26));rw [e1] at HOb;go_enter func36,ntmps36
 go_wp2_with fail
 refine (HI.out _).mono ?_;rintro e W0 ⟨rfl,rfl⟩;clear HI e1;by_cases hix:Lib.indexByte s.data.toList 93= -1
 · have HK0:Hid (kDV s=0):=hJ (by rw [HK.out,hix];rfl)
   have hq:decide (Lib.indexByte s.data.toList 93 ≥ 0)=false:=decide_eq_false (by omega);have HR3:Hid (res=if kAD ⟨s,kDH⟩ && (kAQ ⟨s,kDH⟩).toList==s.toList then some ⟨s,kDH⟩ else none):=hJ (by rw [HR.out,HK0.out];show (match (some kDH:Option Shp) with | none=>none | some x=>_)=_;rw [whole];rfl);generalize (w.alloc (.cells #[.string ⟨#[]⟩,.string ⟨#[]⟩,.slice none 0 0] 26)).alloc (.cells #[.string s,.string ⟨#[]⟩,.slice none 0 0] 26)=W at *;have HEr:=hJ (HE.out.env.keep HBl.out h8);have HRs:=HRb
   obtain ⟨y,ry,va,vm,vc,t,HBX,HRd,hz,HR3⟩:∃ y ry va vm vc t,Hid (Bx W (w.heap.size+1) 26 [.string y,.string ry,.slice va vm vc])∧Hid (RTyp.rd (fun q=>w.heap.size+1<q) W [.string y,.string ry,.slice va vm vc] t)∧szT t∧Hid (res=if kAD t && (kAQ t).toList==s.toList then some t else none) :=
    ⟨s,⟨#[]⟩,none,0,0,⟨s,kDH⟩,HOb,hJ ⟨_,rfl,none,0,rfl,Sl.empty RLin _ _⟩,⟨hs,Nat.zero_le _,fun d hd=>by cases hd⟩,HR3⟩
   clear HRb HOb HR HK HK0 HP;have HCv:=hJ (kCL HRd.out hz HEr.out);have HCx:=hJ (fun (W':World) (hW:Below W.heap.size W W')=>kFX (RTyp.below HRd.out hW) hz (HEr.out.below hW));have v0:=HBX.out.cell 0 _ rfl;have v1:=HBX.out.cell 1 _ rfl;have v2:=HBX.out.cell 2 _ rfl;have hlw:=HBX.out.lt;cases hv:kAD t with
   | false =>
     have HF:Hid (res=none):=hJ (by rw [HR3.out,hv];rfl);rw [hv] at HCv;clear HCx HR3 HRd
     go_wp2_with fail
     refine (HCv.out).mono ?_;rintro e w1 ⟨rfl,hb⟩;replace HRs:=hJ (HRs.out.below hb HRs.out.lt);replace HBl:=hJ (HBl.out.trans (hb.mono HBl.out.size));have z0:=HRs.out.cell 0 _ rfl;have z1:=HRs.out.cell 1 _ rfl;have z2:=HRs.out.cell 2 _ rfl;have f0:=HRs.out.fz 0;have f1:=HRs.out.fz 1;have f2:=HRs.out.fz 2;have hl0:=HRs.out.lt;have HZz:=hJ (((HRs.out.set 0 (.string ⟨#[]⟩)).set 1 (.string ⟨#[]⟩)).set 2 (.slice none 0 0));have s0:=HZz.out.cell 0 _ rfl;have s1:=HZz.out.cell 1 _ rfl;have s2:=HZz.out.cell 2 _ rfl
     go_upto_region 9 with fail
     (try simp only []);repeat (first | go_values | go_skip | go_guarded | go_step | go_upon)
     refine bodyPost_ret (v:=.tuple #[.agg #[.string ⟨#[]⟩,.string ⟨#[]⟩,.slice none 0 0],.int .i64 6]) (by simp [results,results36,go_sem,s0,s1,s2,hl0]) rfl ?_;have HFr:Hid (∀ W,RTyp.rd (fun k=>w.heap.size≤k) W [.string ⟨#[]⟩,.string ⟨#[]⟩,.slice none 0 0] (optT res)):=hJ (fun W=>by rw [HF.out];exact ⟨_,rfl,none,0,rfl,Sl.empty RLin _ _⟩);exact ⟨⟨_,by rw [HF.out];rfl,HFr.out _⟩,((HBl.out.setCell (Nat.le_refl _) _).setCell (Nat.le_refl _) _).setCell (Nat.le_refl _) _⟩
   | true =>
     rw [hv] at HCv HR3
     go_wp2_with fail
     refine (HCv.out).mono ?_;rintro e w1 ⟨rfl,hb⟩;have HC2:=hJ (HCx.out _ hb);have HB1:=hJ hb;replace v0:=(hb.cell (by show w.heap.size+1<_;omega)).trans v0;replace v1:=(hb.cell (by show w.heap.size+1<_;omega)).trans v1;replace v2:=(hb.cell (by show w.heap.size+1<_;omega)).trans v2;clear HCv HCx
     go_wp2_with fail
     refine (HC2.out).mono ?_;rintro e w2 ⟨rfl,hb2⟩;have HB2:=hJ (HB1.out.trans (hb2.mono HB1.out.size));replace v0:=(hb2.cell (by have:=HB1.out.size;show w.heap.size+1<_;omega)).trans v0;replace v1:=(hb2.cell (by have:=HB1.out.size;show w.heap.size+1<_;omega)).trans v1;replace v2:=(hb2.cell (by have:=HB1.out.size;show w.heap.size+1<_;omega)).trans v2;replace HRs:=hJ (HRs.out.below HB2.out HRs.out.lt);replace HBl:=hJ (HBl.out.trans (HB2.out.mono HBl.out.size));generalize kAQ t=o at *;cases ho:(o.toList==s.toList) with
     | false =>
       have HF:Hid (res=none):=hJ (by rw [HR3.out,ho];rfl);have z0:=HRs.out.cell 0 _ rfl;have z1:=HRs.out.cell 1 _ rfl;have z2:=HRs.out.cell 2 _ rfl;have f0:=HRs.out.fz 0;have f1:=HRs.out.fz 1;have f2:=HRs.out.fz 2;have hl0:=HRs.out.lt;have HZz:=hJ (((HRs.out.set 0 (.string ⟨#[]⟩)).set 1 (.string ⟨#[]⟩)).set 2 (.slice none 0 0));have s0:=HZz.out.cell 0 _ rfl;have s1:=HZz.out.cell 1 _ rfl;have s2:=HZz.out.cell 2 _ rfl
       go_upto_region 9 with fail
       (try simp only []);repeat (first | go_values | go_skip | go_guarded | go_step | go_upon)
       refine bodyPost_ret (v:=.tuple #[.agg #[.string ⟨#[]⟩,.string ⟨#[]⟩,.slice none 0 0],.int .i64 6]) (by simp [results,results36,go_sem,s0,s1,s2,hl0]) rfl ?_;have HFr:Hid (∀ W,RTyp.rd (fun k=>w.heap.size≤k) W [.string ⟨#[]⟩,.string ⟨#[]⟩,.slice none 0 0] (optT res)):=hJ (fun W=>by rw [HF.out];exact ⟨_,rfl,none,0,rfl,Sl.empty RLin _ _⟩);exact ⟨⟨_,by rw [HF.out];rfl,HFr.out _⟩,((HBl.out.setCell (Nat.le_refl _) _).setCell (Nat.le_refl _) _).setCell (Nat.le_refl _) _⟩
     | true =>
       have HF:Hid (res=some t):=hJ (by rw [HR3.out,ho];rfl);have z0:=HRs.out.cell 0 _ rfl;have z1:=HRs.out.cell 1 _ rfl;have z2:=HRs.out.cell 2 _ rfl;have f0:=HRs.out.fz 0;have f1:=HRs.out.fz 1;have f2:=HRs.out.fz 2;have hl0:=HRs.out.lt
       go_upto_region 10 with fail
       (try simp only []);repeat (first | go_values | go_skip | go_guarded | go_step | go_upon)
       have HZz:=hJ (((HRs.out.set 0 (.string y)).set 1 (.string ry)).set 2 (.slice va vm vc));have s0:=HZz.out.cell 0 _ rfl;have s1:=HZz.out.cell 1 _ rfl;have s2:=HZz.out.cell 2 _ rfl;refine bodyPost_ret (v:=.tuple #[.agg #[.string y,.string ry,.slice va vm vc],.int .i64 0]) (by simp [results,results36,go_sem,s0,s1,s2,hl0]) rfl ?_;exact ⟨⟨_,by rw [HF.out];rfl,by rw [HF.out];exact RTyp.mono (RTyp.frame (RTyp.frame (RTyp.frame (RTyp.below HRd.out HB2.out) (fun q hq _=>kAB (a:=⟨w.heap.size,0,none⟩) (by show w.heap.size≠q;omega))) (fun q hq _=>kAB (a:=⟨w.heap.size,1,none⟩) (by show w.heap.size≠q;omega))) (fun q hq _=>kAB (a:=⟨w.heap.size,2,none⟩) (by show w.heap.size≠q;omega))) (fun q hq _=>by show w.heap.size≤q;omega)⟩,((HBl.out.setCell (Nat.le_refl _) _).setCell (Nat.le_refl _) _).setCell (Nat.le_refl _) _⟩
 · obtain ⟨i,hi⟩:∃ i:Nat,Lib.indexByte s.data.toList 93=(i:Int):=⟨(Lib.indexByte s.data.toList 93).toNat,by omega⟩
   have hil:=hlt i hi;rw [hi] at HK;have HK1:Hid (kDV s=i+1):=hJ (by rw [HK.out];omega);rw [HK1.out] at HR HP;have hq:decide ((i:Int) ≥ 0)=true:=decide_eq_true (by omega);have hto:((i:Int)+1).toNat=i+1:=by omega
   have hxz:=kBN s (a:=0) (b:=i+1) (by omega);have HF0:Hid (kIT s (i+1)=kGB (s.extract 0 (i+1))):=hJ (by unfold kIT;rw [if_pos (by omega)]);rw [HF0.out] at HR;have hyz:=kBN s (a:=i+1) (b:=s.size) (Nat.le_refl _);have HEw:=hJ (HE.out.keep HBl.out h8);rw [hi];clear HK HK1 hlt hge hix hi HF0;have hW:∃ W,W=(w.alloc (.cells #[.string ⟨#[]⟩,.string ⟨#[]⟩,.slice none 0 0] 26)).alloc (.cells #[.string s,.string ⟨#[]⟩,.slice none 0 0] 26):=⟨_,rfl⟩
   cases hox:kGB (s.extract 0 (i+1)) with
   | none =>
     have HC:=hJ (fun W E=>shape_Parse_none hox (by rw [hxz];omega) HP.out W E);have HF:Hid (res=none):=hJ (by rw [HR.out,hox]);clear HR hox;clear HP hxz
     go_wp2_with fail
     generalize (w.alloc (.cells #[.string ⟨#[]⟩,.string ⟨#[]⟩,.slice none 0 0] 26)).alloc (.cells #[.string s,.string ⟨#[]⟩,.slice none 0 0] 26)=W at *;have hlW:=HOb.out.lt;refine (HC.out _ HEw.out).mono ?_;rintro e w4 ⟨⟨ds,rfl,ty,rfl,ay,cy,rfl,hy⟩,hb4⟩;have hz4:=hb4.size;have HX:=hJ (Bx.fresh w4 24 [.string (kDH).row,.slice ay (kDH).dims.length cy]);have HY:=hJ (hy.below ((Below.refl _ _).alloc (Nat.le_refl _) (.cells #[.string (kDH).row,.slice ay (kDH).dims.length cy] 24)));have HB5:=hJ (hb4.alloc hz4 (.cells #[.string (kDH).row,.slice ay (kDH).dims.length cy] 24));have HRs:=hJ (HRb.out.below HB5.out HRb.out.lt);replace HOb:=hJ (HOb.out.below HB5.out HOb.out.lt);replace HBl:=hJ (HBl.out.trans (HB5.out.mono HBl.out.size));have x0:=HX.out.cell 0 _ rfl;have x1:=HX.out.cell 1 _ rfl;clear HRb hb4 hy HC hW;clear HY HOb HX HB5 x0 x1;have z0:=HRs.out.cell 0 _ rfl;have z1:=HRs.out.cell 1 _ rfl;have z2:=HRs.out.cell 2 _ rfl;have f0:=HRs.out.fz 0;have f1:=HRs.out.fz 1;have f2:=HRs.out.fz 2;have hl0:=HRs.out.lt;have HZz:=hJ (((HRs.out.set 0 (.string ⟨#[]⟩)).set 1 (.string ⟨#[]⟩)).set 2 (.slice none 0 0));have s0:=HZz.out.cell 0 _ rfl;have s1:=HZz.out.cell 1 _ rfl;have s2:=HZz.out.cell 2 _ rfl
     go_upto_region 6 with fail
     (try simp only []);repeat (first | go_values | go_skip | go_guarded | go_step | go_upon)
     refine bodyPost_ret (v:=.tuple #[.agg #[.string ⟨#[]⟩,.string ⟨#[]⟩,.slice none 0 0],.int .i64 6]) (by simp [results,results36,go_sem,s0,s1,s2,hl0]) rfl ?_;have HFr:Hid (∀ W,RTyp.rd (fun k=>w.heap.size≤k) W [.string ⟨#[]⟩,.string ⟨#[]⟩,.slice none 0 0] (optT res)):=hJ (fun W=>by rw [HF.out];exact ⟨_,rfl,none,0,rfl,Sl.empty RLin _ _⟩);exact ⟨⟨_,by rw [HF.out];rfl,HFr.out _⟩,((HBl.out.setCell (Nat.le_refl _) _).setCell (Nat.le_refl _) _).setCell (Nat.le_refl _) _⟩
   | some x =>
     have HC:=hJ (fun W E=>shape_Parse_some hox (by rw [hxz];omega) HP.out W E);have hxs:=readH_sz hox;replace HR:Hid (res=if kAD ⟨s.extract (i+1) s.size,x⟩ && (kAQ ⟨s.extract (i+1) s.size,x⟩).toList==s.toList then some ⟨s.extract (i+1) s.size,x⟩ else none):=hJ (by rw [HR.out,hox]);clear hox;clear HP hxz
     go_wp2_with fail
     generalize (w.alloc (.cells #[.string ⟨#[]⟩,.string ⟨#[]⟩,.slice none 0 0] 26)).alloc (.cells #[.string s,.string ⟨#[]⟩,.slice none 0 0] 26)=W at *;have hlW:=HOb.out.lt;refine (HC.out _ HEw.out).mono ?_;rintro e w4 ⟨⟨ds,rfl,ty,rfl,ay,cy,rfl,hy⟩,hb4⟩;have hz4:=hb4.size;have HX:=hJ (Bx.fresh w4 24 [.string (x).row,.slice ay (x).dims.length cy]);have HY:=hJ (hy.below ((Below.refl _ _).alloc (Nat.le_refl _) (.cells #[.string (x).row,.slice ay (x).dims.length cy] 24)));have HB5:=hJ (hb4.alloc hz4 (.cells #[.string (x).row,.slice ay (x).dims.length cy] 24));have HRs:=hJ (HRb.out.below HB5.out HRb.out.lt);replace HOb:=hJ (HOb.out.below HB5.out HOb.out.lt);replace HBl:=hJ (HBl.out.trans (HB5.out.mono HBl.out.size));have x0:=HX.out.cell 0 _ rfl;have x1:=HX.out.cell 1 _ rfl;clear HRb hb4 hy HC hW;have v0:=HOb.out.cell 0 _ rfl;have v1:=HOb.out.cell 1 _ rfl;have v2:=HOb.out.cell 2 _ rfl;have f0:=HOb.out.fz 0;have f1:=HOb.out.fz 1;have f2:=HOb.out.fz 2;have hlo:=HOb.out.lt
     go_wp2_with fail
     have hb0:(0:Int)≤(i:Int)+1:=by omega
     have hb1:(i:Int)+1≤(s.size:Int):=by omega
     have hb2:IntKind.i64.wrap ((i:Int)+1)=(i:Int)+1:=by rw [IntKind.wrap_i64];omega
     have hfar:∀ (W:World) (j:Nat) (u1 u2 u3:Value),(((W.setCell ⟨w.heap.size+1,0,none⟩ u1).setCell ⟨w.heap.size+1,1,none⟩ u2).setCell ⟨w.heap.size+1,2,none⟩ u3).cell? ⟨w4.heap.size,j,none⟩=W.cell? ⟨w4.heap.size,j,none⟩:=fun W j u1 u2 u3=>by
      have hn:w.heap.size+1≠w4.heap.size:=by omega
      rw [World.cell?_setCell_far _ _ _ _ hn,World.cell?_setCell_far _ _ _ _ hn,World.cell?_setCell_far _ _ _ _ hn]
     go_region_held3 (fun W=>W.cell? ⟨w4.heap.size,0,none⟩=some (.string x.row)∧W.cell? ⟨w4.heap.size,1,none⟩=some (.slice ay x.dims.length cy)) (first | exact ⟨x0,x1⟩ | (with_reducible exact ⟨(hfar _ _ _ _ _).trans x0,(hfar _ _ _ _ _).trans x1⟩) | go_keep) (fail)
     have hne:w.heap.size+1≠w.heap.size:=by omega
     replace HOb:=hJ (((HOb.out.set 0 (.string (s.extract (i+1) s.size))).set 1 (.string x.row)).set 2 (.slice ay x.dims.length cy)).drew;replace HRs:=hJ (((HRs.out.other (a:=⟨w.heap.size+1,0,none⟩) (u:=.string (s.extract (i+1) s.size)) hne).other (a:=⟨w.heap.size+1,1,none⟩) (u:=.string x.row) hne).other (a:=⟨w.heap.size+1,2,none⟩) (u:=.slice ay x.dims.length cy) hne).drew;replace HBl:=hJ (Below.drew (((HBl.out.setCell (show w.heap.size≤(⟨w.heap.size+1,0,none⟩:Addr).block from Nat.le_succ _) (.string (s.extract (i+1) s.size))).setCell (show w.heap.size≤(⟨w.heap.size+1,1,none⟩:Addr).block from Nat.le_succ _) (.string x.row)).setCell (show w.heap.size≤(⟨w.heap.size+1,2,none⟩:Addr).block from Nat.le_succ _) (.slice ay x.dims.length cy)));replace HY:=hJ (((HY.out.frame (w':=World.setCell _ ⟨w.heap.size+1,0,none⟩ (.string (s.extract (i+1) s.size))) (fun k hk _=>kAB (by show w.heap.size+1≠k;omega))).frame (w':=World.setCell _ ⟨w.heap.size+1,1,none⟩ (.string x.row)) (fun k hk _=>kAB (by show w.heap.size+1≠k;omega))).frame (w':=World.setCell _ ⟨w.heap.size+1,2,none⟩ (.slice ay x.dims.length cy)) (fun k hk _=>kAB (by show w.heap.size+1≠k;omega)));clear x0 x1 v0 v1 v2 f0 f1 f2 HX HB5 hfar hb0 hb1 hb2 hlo hto hq;have HY2:Hid (Sl RLin (fun k=>W.heap.size≤k) ((((w4.alloc (.cells #[.string x.row,.slice ay x.dims.length cy] 24)).setCell ⟨w.heap.size+1,0,none⟩ (.string (s.extract (i+1) s.size))).setCell ⟨w.heap.size+1,1,none⟩ (.string x.row)).setCell ⟨w.heap.size+1,2,none⟩ (.slice ay x.dims.length cy)).drew ay x.dims.length cy x.dims):=hJ (HY.out.frame fun _ _ _=>rfl);clear HY;generalize ((((w4.alloc (.cells #[.string x.row,.slice ay x.dims.length cy] 24)).setCell ⟨w.heap.size+1,0,none⟩ (.string (s.extract (i+1) s.size))).setCell ⟨w.heap.size+1,1,none⟩ (.string x.row)).setCell ⟨w.heap.size+1,2,none⟩ (.slice ay x.dims.length cy)).drew=W2 at *;have HEr:=hJ (HE.out.env.keep HBl.out h8)
     obtain ⟨y,ry,va,vm,vc,t,HBX,HRd,hz,HR3⟩:∃ y ry va vm vc t,Hid (Bx W2 (w.heap.size+1) 26 [.string y,.string ry,.slice va vm vc])∧Hid (RTyp.rd (fun q=>w.heap.size+1<q) W2 [.string y,.string ry,.slice va vm vc] t)∧szT t∧Hid (res=if kAD t && (kAQ t).toList==s.toList then some t else none) :=
      ⟨s.extract (i+1) s.size,x.row,ay,x.dims.length,cy,⟨s.extract (i+1) s.size,x⟩,HOb,hJ ⟨_,rfl,ay,cy,rfl,HY2.out.mono (fun q hq _=>by omega)⟩,⟨by show (s.extract (i+1) s.size).size≤_;omega,hxs⟩,HR⟩
     clear HOb HR HY2 HEw;have HCv:=hJ (kCL HRd.out hz HEr.out);have HCx:=hJ (fun (W':World) (hW:Below W2.heap.size W2 W')=>kFX (RTyp.below HRd.out hW) hz (HEr.out.below hW));have v0:=HBX.out.cell 0 _ rfl;have v1:=HBX.out.cell 1 _ rfl;have v2:=HBX.out.cell 2 _ rfl;have hlw:=HBX.out.lt;cases hv:kAD t with
     | false =>
       have HF:Hid (res=none):=hJ (by rw [HR3.out,hv];rfl);rw [hv] at HCv;clear HCx HR3 HRd
       go_wp2_with fail
       refine (HCv.out).mono ?_;rintro e w1 ⟨rfl,hb⟩;replace HRs:=hJ (HRs.out.below hb HRs.out.lt);replace HBl:=hJ (HBl.out.trans (hb.mono HBl.out.size));have z0:=HRs.out.cell 0 _ rfl;have z1:=HRs.out.cell 1 _ rfl;have z2:=HRs.out.cell 2 _ rfl;have f0:=HRs.out.fz 0;have f1:=HRs.out.fz 1;have f2:=HRs.out.fz 2;have hl0:=HRs.out.lt;have HZz:=hJ (((HRs.out.set 0 (.string ⟨#[]⟩)).set 1 (.string ⟨#[]⟩)).set 2 (.slice none 0 0));have s0:=HZz.out.cell 0 _ rfl;have s1:=HZz.out.cell 1 _ rfl;have s2:=HZz.out.cell 2 _ rfl
       go_upto_region 9 with fail
       (try simp only []);repeat (first | go_values | go_skip | go_guarded | go_step | go_upon)
       refine bodyPost_ret (v:=.tuple #[.agg #[.string ⟨#[]⟩,.string ⟨#[]⟩,.slice none 0 0],.int .i64 6]) (by simp [results,results36,go_sem,s0,s1,s2,hl0]) rfl ?_;have HFr:Hid (∀ W,RTyp.rd (fun k=>w.heap.size≤k) W [.string ⟨#[]⟩,.string ⟨#[]⟩,.slice none 0 0] (optT res)):=hJ (fun W=>by rw [HF.out];exact ⟨_,rfl,none,0,rfl,Sl.empty RLin _ _⟩);exact ⟨⟨_,by rw [HF.out];rfl,HFr.out _⟩,((HBl.out.setCell (Nat.le_refl _) _).setCell (Nat.le_refl _) _).setCell (Nat.le_refl _) _⟩
     | true =>
       rw [hv] at HCv HR3
       go_wp2_with fail
       refine (HCv.out).mono ?_;rintro e w1 ⟨rfl,hb⟩;have HC2:=hJ (HCx.out _ hb);have HB1:=hJ hb;replace v0:=(hb.cell (by show w.heap.size+1<_;omega)).trans v0;replace v1:=(hb.cell (by show w.heap.size+1<_;omega)).trans v1;replace v2:=(hb.cell (by show w.heap.size+1<_;omega)).trans v2;clear HCv HCx
       go_wp2_with fail
       refine (HC2.out).mono ?_;rintro e w2 ⟨rfl,hb2⟩;have HB2:=hJ (HB1.out.trans (hb2.mono HB1.out.size));replace v0:=(hb2.cell (by have:=HB1.out.size;show w.heap.size+1<_;omega)).trans v0;replace v1:=(hb2.cell (by have:=HB1.out.size;show w.heap.size+1<_;omega)).trans v1;replace v2:=(hb2.cell (by have:=HB1.out.size;show w.heap.size+1<_;omega)).trans v2;replace HRs:=hJ (HRs.out.below HB2.out HRs.out.lt);replace HBl:=hJ (HBl.out.trans (HB2.out.mono HBl.out.size));generalize kAQ t=o at *;cases ho:(o.toList==s.toList) with
       | false =>
         have HF:Hid (res=none):=hJ (by rw [HR3.out,ho];rfl);have z0:=HRs.out.cell 0 _ rfl;have z1:=HRs.out.cell 1 _ rfl;have z2:=HRs.out.cell 2 _ rfl;have f0:=HRs.out.fz 0;have f1:=HRs.out.fz 1;have f2:=HRs.out.fz 2;have hl0:=HRs.out.lt;have HZz:=hJ (((HRs.out.set 0 (.string ⟨#[]⟩)).set 1 (.string ⟨#[]⟩)).set 2 (.slice none 0 0));have s0:=HZz.out.cell 0 _ rfl;have s1:=HZz.out.cell 1 _ rfl;have s2:=HZz.out.cell 2 _ rfl
         go_upto_region 9 with fail
         (try simp only []);repeat (first | go_values | go_skip | go_guarded | go_step | go_upon)
         refine bodyPost_ret (v:=.tuple #[.agg #[.string ⟨#[]⟩,.string ⟨#[]⟩,.slice none 0 0],.int .i64 6]) (by simp [results,results36,go_sem,s0,s1,s2,hl0]) rfl ?_;have HFr:Hid (∀ W,RTyp.rd (fun k=>w.heap.size≤k) W [.string ⟨#[]⟩,.string ⟨#[]⟩,.slice none 0 0] (optT res)):=hJ (fun W=>by rw [HF.out];exact ⟨_,rfl,none,0,rfl,Sl.empty RLin _ _⟩);exact ⟨⟨_,by rw [HF.out];rfl,HFr.out _⟩,((HBl.out.setCell (Nat.le_refl _) _).setCell (Nat.le_refl _) _).setCell (Nat.le_refl _) _⟩
       | true =>
         have HF:Hid (res=some t):=hJ (by rw [HR3.out,ho];rfl);have z0:=HRs.out.cell 0 _ rfl;have z1:=HRs.out.cell 1 _ rfl;have z2:=HRs.out.cell 2 _ rfl;have f0:=HRs.out.fz 0;have f1:=HRs.out.fz 1;have f2:=HRs.out.fz 2;have hl0:=HRs.out.lt
         go_upto_region 10 with fail
         (try simp only []);repeat (first | go_values | go_skip | go_guarded | go_step | go_upon)
         have HZz:=hJ (((HRs.out.set 0 (.string y)).set 1 (.string ry)).set 2 (.slice va vm vc));have s0:=HZz.out.cell 0 _ rfl;have s1:=HZz.out.cell 1 _ rfl;have s2:=HZz.out.cell 2 _ rfl;refine bodyPost_ret (v:=.tuple #[.agg #[.string y,.string ry,.slice va vm vc],.int .i64 0]) (by simp [results,results36,go_sem,s0,s1,s2,hl0]) rfl ?_;exact ⟨⟨_,by rw [HF.out];rfl,by rw [HF.out];exact RTyp.mono (RTyp.frame (RTyp.frame (RTyp.frame (RTyp.below HRd.out HB2.out) (fun q hq _=>kAB (a:=⟨w.heap.size,0,none⟩) (by show w.heap.size≠q;omega))) (fun q hq _=>kAB (a:=⟨w.heap.size,1,none⟩) (by show w.heap.size≠q;omega))) (fun q hq _=>kAB (a:=⟨w.heap.size,2,none⟩) (by show w.heap.size≠q;omega))) (fun q hq _=>by show w.heap.size≤q;omega)⟩,((HBl.out.setCell (Nat.le_refl _) _).setCell (Nat.le_refl _) _).setCell (Nat.le_refl _) _⟩
def arrS:Str:=⟨#[41,32,45,62,32]⟩
def whrS:Str:=⟨#[32,119,104,101,114,101,32]⟩
def parS:Str:=⟨#[40]⟩
def kBC (s:Str) (k:Nat):Int:=(List.range k).foldl (fun d i=>if bt s i==91 then d+1 else if bt s i==93 then d - 1 else d) 0
theorem kCW (s:Str) (k:Nat):kBC s (k+1)=if bt s k==91 then kBC s k+1 else if bt s k==93 then kBC s k - 1 else kBC s k:=by
 unfold kBC;rw [List.range_succ,List.foldl_append];rfl
def cut1 (s p:Str):Str:=⟨(Lib.cut s.data.toList p.data.toList).1.toArray⟩
def cut2 (s p:Str):Str:=⟨(Lib.cut s.data.toList p.data.toList).2.1.toArray⟩
def cut3 (s p:Str):Bool:=(Lib.cut s.data.toList p.data.toList).2.2
def parF (s:Str):Nat→Nat × List Str
 | 0=>(0,[])
 | k+1=>if bt s k=44∧kBC s k=0∧(parF s k).1≤k∧k+1<s.size then (min (k+2) s.size,(parF s k).2++[s.extract (parF s k).1 k]) else parF s k
def kDD (s:Str):List Str:=(parF s s.size).2++[s.extract (parF s s.size).1 s.size]
def kHO:List Str→List Typ→Option (List Typ)
 | [],acc=>some acc
 | x :: l,acc=>match kBS x with
   | none=>none
   | some t=>kHO l (acc++[t])
def kHP:List Str→List Lin→Option (List Lin)
 | [],acc=>some acc
 | x :: l,acc=>if kEU (kA5 (kBW x) x)=0 then kHP l (acc++[kET (kA5 (kBW x) x)]) else none
def kIK (s:Str) (x:Sch):Option Sch:=if kAI x && (kBO x).toList==s.toList then some x else none
def kGH (s:Str):Str:=cutP (cut1 s arrS) parS
def kC8 (s:Str):Option Sch :=
 if cut3 s arrS && hasP (cut1 s arrS) parS then
  match kHO (if (kGH s).toList.isEmpty then [] else kDD (kGH s)) [] with
  | none=>none
  | some ps=>match kBS (cut1 (cut2 s arrS) whrS) with
    | none=>none
    | some t=>match (if cut3 (cut2 s arrS) whrS then kHP (kBU (cut2 (cut2 s arrS) whrS) comS) [] else some []) with
      | none=>none
      | some ls=>kIK s ⟨ps,t,ls⟩
 else none
def cutN (s p:Str):Nat:=kB6 (fun i=> !(kBC s i==0 && (s.extract i (i+p.size)).toList==p.toList)) (s.size+1 - p.size) 0
def cutB (s p:Str):Bool:=decide (cutN s p+p.size≤s.size)
def cutL (s p:Str):Str:=if cutB s p then s.extract 0 (cutN s p) else s
def cutR (s p:Str):Str:=if cutB s p then s.extract (cutN s p+p.size) s.size else ⟨#[]⟩
def goSR:Nat→Str→List Typ→Option (List Typ)
 | 0,_,_=>none
 | g+1,r,acc=>if r.size=0 then some acc else match kBS (cutL r comS) with
   | none=>none
   | some t=>if cutB r comS && (cutR r comS).toList.isEmpty then none else goSR g (cutR r comS) (acc++[t])
def goWR:Nat→Str→Bool→List Lin→Option (List Lin)
 | 0,_,_,_=>none
 | g+1,r,b,acc=>if b then (if kEU (kA5 (kCD (cutL r comS)) (cutL r comS))=0 then goWR g (cutR r comS) (cutB r comS) (acc++[kET (kA5 (kCD (cutL r comS)) (cutL r comS))]) else none) else some acc
def readSR (s:Str):Option Sch :=
 if cutB s arrS && (decide (0<(cutL s arrS).size) && bt (cutL s arrS) 0==40) then
  match goSR (s.size+1) ((cutL s arrS).extract 1 (cutL s arrS).size) [] with
  | none=>none
  | some ps=>match kBS (cutL (cutR s arrS) whrS) with
    | none=>none
    | some t=>match goWR (s.size+2) (cutR (cutR s arrS) whrS) (cutB (cutR s arrS) whrS) [] with
      | none=>none
      | some ls=>kIK s ⟨ps,t,ls⟩
 else none
theorem okSch_sound {s:Str} {x y:Sch} (h:kIK s x=some y):kAI y=true∧kBO y=s:=by
 unfold kIK at h
 split at h
 · rename_i hc
   obtain rfl:=Option.some.inj h;rw [Bool.and_eq_true] at hc;exact ⟨hc.1,(kA4 _ _).1 hc.2⟩
 · cases h
theorem okSch_self {x:Sch} (h:kAI x=true):kIK (kBO x) x=some x:=by
 unfold kIK;rw [h];simp
theorem kGX {s:Str} {x:Sch} (h:kC8 s=some x):kAI x=true∧kBO x=s:=by
 unfold kC8 at h
 split at h
 · split at h
   · cases h
   · split at h
     · cases h
     · split at h
       · cases h
       · exact okSch_sound h
 · cases h
theorem readSR_sound {s:Str} {x:Sch} (h:readSR s=some x):kAI x=true∧kBO x=s:=by
 unfold readSR at h
 split at h
 · split at h
   · cases h
   · split at h
     · cases h
     · split at h
       · cases h
       · exact okSch_sound h
 · cases h
theorem kDP {a b:Str}:∀ (j:Nat),j≤a.size→kBC (a++b) j=kBC a j
 | 0,_=>rfl
 | j+1,h=>by
   rw [kCW,kCW,kBL (by omega),kDP j (by omega)]
theorem kCB {a b:Str}:∀ (j:Nat),j≤b.size→kBC (a++b) (a.size+j)=kBC a a.size+kBC b j
 | 0,_=>by
   rw [Nat.add_zero,kDP _ (Nat.le_refl _)]
   show _=_+(0:Int)
   omega
 | j+1,h=>by
   rw [← Nat.add_assoc,kCW,kCW,kC1 (by omega),kCB j (by omega)]
   split
   · omega
   · split <;> omega
theorem deepN_flat {a:Str}:∀ (j:Nat),j≤a.size→(∀ i,i<j→bt a i≠91∧bt a i≠93)→kBC a j=0
 | 0,_,_=>rfl
 | j+1,h,hb=>by
   obtain ⟨h1,h2⟩:=hb j (Nat.lt_succ_self _);rw [kCW,beq_eq_false_iff_ne.2 h1,beq_eq_false_iff_ne.2 h2,deepN_flat j (by omega) (fun i hi=>hb i (by omega))];rfl
structure Calm (a:Str):Prop where
 end_:kBC a a.size=0
 out:∀ j,j<a.size→kBC a j=0→bt a j≠44∧bt a j≠32∧bt a j≠41
theorem Calm.flat {a:Str} (h:AllB kI8 a):Calm a :=
 ⟨deepN_flat _ (Nat.le_refl _) fun i hi=>⟨h.ne (by decide) hi,h.ne (by decide) hi⟩,fun j hj _=>⟨h.ne (by decide) hj,h.ne (by decide) hj,h.ne (by decide) hj⟩⟩
theorem Calm.app {a b:Str} (ha:Calm a) (hb:Calm b):Calm (a++b):=by
 refine ⟨by rw [ByteArray.size_append,kCB _ (Nat.le_refl _),ha.end_,hb.end_];rfl,fun j hj hd=>?_⟩;rcases Nat.lt_or_ge j a.size with q | q
 · rw [kDP _ (by omega)] at hd
   rw [kBL q];exact ha.out j q hd
 · obtain ⟨k,rfl⟩:∃ k,j=a.size+k:=⟨j - a.size,by omega⟩
   rw [ByteArray.size_append] at hj;rw [kCB _ (by omega),ha.end_,Int.zero_add] at hd;rw [kC1 (by omega)];exact hb.out k (by omega) hd
theorem kIH {s:Str} (h:kFE s=true):AllB kI8 s:=(elem_elC h).1.mono fun c=>el_noSep
theorem textH_calm {x:Shp} (h:kAG x=true):Calm (kA3 x):=by
 obtain ⟨i,e,hi,_⟩:=kF0 h;rw [e];have hc:(⟨#[91]⟩:Str).size=1:=rfl;have hd:(⟨#[93]⟩:Str).size=1:=rfl;have d1:kBC (⟨#[91]⟩:Str) 1=1:=by decide
 have fi:∀ j,j≤i.size→kBC i j=0:=fun j hj=>deepN_flat j hj fun k hk=>⟨(hi k (by omega)).2.1,(hi k (by omega)).1⟩
 have fm:∀ j,j≤i.size→kBC ((⟨#[91]⟩:Str)++(i++⟨#[93]⟩)) (1+j)=1:=fun j hj=>by
  have:=kCB (a:=(⟨#[91]⟩:Str)) (b:=i++⟨#[93]⟩) j (by rw [ByteArray.size_append];omega);rw [hc] at this;rw [this,d1,kDP _ hj,fi j hj];rfl
 have hsz:((⟨#[91]⟩:Str)++(i++⟨#[93]⟩)).size=1+(i.size+1):=by rw [ByteArray.size_append,ByteArray.size_append,hc,hd]
 have bl:bt ((⟨#[91]⟩:Str)++(i++⟨#[93]⟩)) (1+i.size)=93:=by
  have:=kC1 (a:=(⟨#[91]⟩:Str)) (b:=i++⟨#[93]⟩) (k:=i.size) (by rw [ByteArray.size_append];omega);rw [hc] at this;rw [this];have:=kC1 (a:=i) (b:=⟨#[93]⟩) (k:=0) (by decide);rw [Nat.add_zero] at this;rw [this];decide
 refine ⟨?_,fun j hj hdj=>?_⟩
 · rw [hsz,← Nat.add_assoc,kCW,fm _ (Nat.le_refl _),bl];rfl
 · rcases Nat.eq_zero_or_pos j with rfl | q
   · rw [kBL (by decide)];decide
   · obtain ⟨m,rfl⟩:∃ m,j=1+m:=⟨j - 1,by omega⟩
     rw [fm m (by omega)] at hdj;cases hdj
theorem kH1 {t:Typ} (h:kAD t=true):Calm (kAQ t):=by
 obtain ⟨h1,h2⟩:=kDE h;rcases kD0 h with ⟨_,e⟩ | e
 · rw [e];exact Calm.flat (kIH h1)
 · rw [e];exact (textH_calm h2).app (Calm.flat (kIH h1))
theorem textT_full {t:Typ} (h:kAD t=true):(kAQ t).toList.isEmpty=false:=by
 obtain ⟨h1,h2⟩:=kDE h;have:=(elem_elC h1).2;rcases kD0 h with ⟨_,e⟩ | e
 · rw [e];exact kDG this
 · rw [e];exact kDG (by rw [ByteArray.size_append];omega)
theorem parF_calm {s a x r:Str} {out:List Str} (hs:s=a++(x++r)) (hd:kBC a a.size=0) (hx:Calm x) (hp:parF s a.size=(a.size,out)):∀ j,j≤x.size→parF s (a.size+j)=(a.size,out)
 | 0,_=>hp
 | j+1,h=>by
   have ih:=parF_calm hs hd hx hp j (by omega)
   show parF s (a.size+j+1)=_
   unfold parF;rw [ih,if_neg];rintro ⟨c1,c2,_⟩;rw [hs,kDC (by omega)] at c1;rw [hs,kCB _ (by rw [ByteArray.size_append];omega),hd,Int.zero_add,kDP _ (by omega)] at c2;exact (hx.out j (by omega) c2).1 c1
theorem params_join:∀ (l:List Str) (x a:Str) (out:List Str) (s:Str),s=a++kAO (x :: l) comS→kBC a a.size=0→(∀ y ∈ x :: l,Calm y∧y.toList.isEmpty=false)→parF s a.size=(a.size,out) →
 (parF s s.size).2++[s.extract (parF s s.size).1 s.size]=out++(x :: l)
 | [],x,a,out,s,hs,hd,hl,hp=>by
   rw [kCH] at hs;have h1:=parF_calm (r:=⟨#[]⟩) (hs.trans (by rw [kCZ])) hd (hl x (List.mem_cons_self ..)).1 hp x.size (Nat.le_refl _);have hsz:s.size=a.size+x.size:=by rw [hs,ByteArray.size_append]
   rw [hsz,h1,← hsz]
   show out++[s.extract a.size s.size]=_
   rw [hs,kFV]
 | y :: l,x,a,out,s,hs,hd,hl,hp=>by
   rw [kC9] at hs;have hc:comS.size=2:=rfl;have hxc:=(hl x (List.mem_cons_self ..)).1;have h1:=parF_calm hs hd hxc hp x.size (Nat.le_refl _);have hj:0<(kAO (y :: l) comS).size:=kDQ (by rw [kE1 (fun z hz=>(hl z (List.mem_cons_of_mem _ hz)).2)];rfl);have hsz:s.size=a.size+(x.size+(2+(kAO (y :: l) comS).size)):=by rw [hs,ByteArray.size_append,ByteArray.size_append,ByteArray.size_append,hc]
   have hs2:s=(a++x)++(comS++kAO (y :: l) comS):=by rw [hs,ByteArray.append_assoc]
   have hax:(a++x).size=a.size+x.size:=ByteArray.size_append;have hdx:kBC (a++x) (a++x).size=0:=by rw [hax,kCB _ (Nat.le_refl _),hd,hxc.end_];rfl
   have b0:bt s (a.size+x.size)=44:=by
    have:=kDC (a:=a++x) (b:=comS) (c:=kAO (y :: l) comS) (k:=0) (by decide);rw [Nat.add_zero,hax] at this;rw [hs2,this];decide
   have b1:bt s (a.size+x.size+1)=32:=by
    have:=kDC (a:=a++x) (b:=comS) (c:=kAO (y :: l) comS) (k:=1) (by decide);rw [hax] at this;rw [hs2,this];decide
   have d0:kBC s (a.size+x.size)=0:=by rw [hs2,← hax,kDP _ (Nat.le_refl _)];exact hdx
   have ex:s.extract a.size (a.size+x.size)=x:=by rw [hs];exact kD6
   have h2:parF s (a.size+x.size+1)=(a.size+x.size+2,out++[x]):=by
    unfold parF;rw [h1,if_pos ⟨b0,d0,Nat.le_add_right _ _,by omega⟩,ex,Nat.min_eq_left (by omega)]
   have h3:parF s (a.size+x.size+2)=(a.size+x.size+2,out++[x]):=by
    show parF s (a.size+x.size+1+1)=_
    rw [show parF s (a.size+x.size+1+1)=if bt s (a.size+x.size+1)=44∧_ then _ else parF s (a.size+x.size+1) from rfl,if_neg (by rw [b1];rintro ⟨q,_⟩;cases q)];exact h2
   have hac:((a++x)++comS).size=a.size+x.size+2:=by rw [ByteArray.size_append,hax,hc]
   have hs3:s=((a++x)++comS)++kAO (y :: l) comS:=by rw [hs2,ByteArray.append_assoc,ByteArray.append_assoc,ByteArray.append_assoc]
   have hd3:kBC ((a++x)++comS) ((a++x)++comS).size=0:=by
    rw [ByteArray.size_append,kCB _ (Nat.le_refl _),hdx]
    decide
   have:=params_join l y ((a++x)++comS) (out++[x]) s hs3 hd3 (fun z hz=>hl z (List.mem_cons_of_mem _ hz)) (by rw [hac];exact h3);rw [this,List.append_assoc];rfl
theorem params_back {x:Str} {l:List Str} (hl:∀ y ∈ x :: l,Calm y∧y.toList.isEmpty=false):kDD (kAO (x :: l) comS)=x :: l:=by
 have:=params_join l x ⟨#[]⟩ [] (kAO (x :: l) comS) (kDR _).symm rfl hl rfl
 rwa [List.nil_append] at this
theorem listT_back:∀ (l acc:List Typ),(∀ t ∈ l,kAD t=true)→kHO (l.map kAQ) acc=some (acc++l)
 | [],acc,_=>by rw [List.append_nil];rfl
 | t :: l,acc,h=>by
   show (match kBS (kAQ t) with | none=>none | some t=>kHO (l.map kAQ) (acc++[t]))=_
   rw [(kDM (h t (List.mem_cons_self ..))).1]
   show kHO (l.map kAQ) (acc++[t])=_
   rw [listT_back l _ (fun q hq=>h q (List.mem_cons_of_mem _ hq)),List.append_assoc];rfl
theorem listL_back:∀ (l acc:List Lin),(∀ t ∈ l,kAC t=true)→kHP (l.map kAF) acc=some (acc++l)
 | [],acc,_=>by rw [List.append_nil];rfl
 | t :: l,acc,h=>by
   obtain ⟨r1,r2⟩:=kJW itemP_law (h t (List.mem_cons_self ..))
   show (if kEU (kA5 (kBW (kAF t)) (kAF t))=0 then kHP (l.map kAF) (acc++[kET (kA5 (kBW (kAF t)) (kAF t))]) else none)=_
   rw [r1,r2,if_pos rfl,listL_back l _ (fun q hq=>h q (List.mem_cons_of_mem _ hq)),List.append_assoc];rfl
def kBQ (t:Typ):Str:=if kAD t then kAQ t else ⟨#[]⟩
theorem kE7 {S:Blk} {x:Typ} {cs:List Value} {w:World} (h:RTyp.rd S w cs x) (hz:szT x) :
 Calls Tryz.prog 35 #[.agg cs.toArray] w fun e w'=>e= .returned (.tuple #[.string (kBQ x),.int .i64 (kCF (kAD x))])∧Below w.heap.size w w':=by
 have HV:Hid (∀ W,Below w.heap.size w W→Calls Tryz.prog 27 #[.agg cs.toArray] W fun e w'=>e= .returned (.bool (kAD x))∧Below W.heap.size W w'):=hJ (fun W hW=>kGU (RTyp.below h hW) hz);obtain ⟨t,rfl,a,c,rfl,hs⟩:=h
 have HX:Hid (∀ W,Below w.heap.size w W→Calls Tryz.prog 84 #[.agg #[.string x.shape.row,.slice a x.shape.dims.length c]] W fun e w'=>e= .returned (.tuple #[.string (kCC x.shape),.int .i64 (kCF (kAG x.shape))])∧Below W.heap.size W w') :=
  hJ (fun W hW=>ref11_Print (cs:=[.string x.shape.row,.slice a x.shape.dims.length c]) ⟨_,rfl,a,c,rfl,hs.below hW⟩ hz.2)
 have hez:x.elem.size≤10000:=hz.1;have hpz:=printH_size hz.2;have HT:Hid (kAQ x=if (kCC x.shape).toList==[91,93] then x.elem else kCC x.shape++x.elem):=hJ rfl;clear hs hz;obtain ⟨B0,ya,hW0⟩:=box1 w 26 [.string x.elem,.string x.shape.row,.slice a x.shape.dims.length c];have xa0:=box0 ya 0 _ rfl;have xa1:=box0 ya 1 _ rfl;have xa2:=box0 ya 2 _ rfl;clear ya;have HC:=hJ (HV.out _ B0.out);cases hv:kAD x with
 | false =>
   have HF:Hid (kBQ x=⟨#[]⟩):=hJ (by unfold kBQ;rw [hv];rfl);rw [hv] at HC;clear HV HX;go_enter func35,ntmps35
   go_wp2_with fail
   refine (HC.out).mono ?_;rintro e w1 ⟨rfl,hb⟩
   go_wp2_with fail
   go_returns
   exact ⟨by rw [HF.out];rfl,B0.out.trans (hb.mono B0.out.size)⟩
 | true =>
   have HF:Hid (kBQ x=kAQ x):=hJ (by unfold kBQ;rw [if_pos hv]);rw [hv] at HC;clear HV hv;generalize kCF (kAG x.shape)=ev at *;go_enter func35,ntmps35
   go_wp2_with fail
   refine (HC.out).mono ?_;rintro e w1 ⟨rfl,hb⟩;have HW1:Hid (Below w.heap.size w w1):=hJ (B0.out.trans (hb.mono B0.out.size));have g0:=kAE xa0 _ hb;have g1:=kAE xa1 _ hb;have g2:=kAE xa2 _ hb;have HP:=hJ (HX.out _ HW1.out);clear xa0 xa1 xa2 hb HC HX B0 hW0;generalize kCC x.shape=p at *;by_cases hq:(p.toList==[91,93])=true
   · have HG:Hid (kBQ x=x.elem):=hJ (by rw [HF.out,HT.out,if_pos hq])
     go_wp2_with fail
     refine (HP.out).mono ?_;rintro e w2 ⟨rfl,hb2⟩;have k0:=kAE g0 _ hb2
     go_wp2_with fail
     go_returns
     exact ⟨by rw [HG.out];first | rfl | (rw [kDR];rfl),HW1.out.trans (hb2.mono HW1.out.size)⟩
   · have HG:Hid (kBQ x=p++x.elem):=hJ (by rw [HF.out,HT.out,if_neg hq])
     have hq:(p.toList==[91,93])=false:=by simpa using hq
     go_wp2_with fail
     refine (HP.out).mono ?_;rintro e w2 ⟨rfl,hb2⟩;have k0:=kAE g0 _ hb2
     go_wp2_with fail
     go_returns
     exact ⟨by rw [HG.out];rfl,HW1.out.trans (hb2.mono HW1.out.size)⟩
def kG7 (s:Sch) (k:Nat):Str:=if k=0 then kI9 s else kI9 s++((⟨#[32,119,104,101,114,101,32]⟩:Str)++kAO ((s.wh.take k).map kAF) ⟨#[44,32]⟩)
theorem kGN {x:Sch} (h:kAI x=true):(∀ t ∈ x.params,kAD t=true)∧kAD x.result=true:=by
 unfold kAI at h;rw [Bool.and_eq_true,Bool.and_eq_true,Bool.and_eq_true,Bool.and_eq_true] at h;refine ⟨fun t ht=>?_,h.2.2.2.1⟩;have h2:=h.2.2.1;rw [Bool.not_eq_true',List.any_eq_false] at h2;have:=h2 t ht
 simpa using this
theorem join_take {α :Type} [Inhabited α] (f: α →Str) {l:List α} {k:Nat} (hk:k<l.length) (sep:Str):kAO ((l.take (k+1)).map f) sep=if k=0 then f (l.getD k default) else (kAO ((l.take k).map f) sep++sep)++f (l.getD k default):=by
 rw [kCQ f hk]
 split
 · rename_i h
   subst h;rw [List.take_zero,List.map_nil,List.nil_append,kCH]
 · rename_i h
   rw [joinS_next];intro e;have:=congrArg List.length e;rw [List.length_map,List.length_take,List.length_nil] at this;omega
theorem joins_le {α :Type} (f: α →Str) (M:Nat) {l:List α} (h:∀ x ∈ l,(f x).size≤M) (k:Nat) (sep:Str) (hs:sep.size≤2):(kAO ((l.take k).map f) sep).size≤l.length * (M+2):=by
 have h1:=kDN (M:=M) ((l.take k).map f) sep (fun y hy=>by
  obtain ⟨z,hz1,rfl⟩:=List.mem_map.1 hy;exact h z (List.mem_of_mem_take hz1))
 rw [List.length_map,List.length_take] at h1;exact Nat.le_trans h1 (Nat.mul_le_mul (by omega) (by omega))
theorem kF7 {S:Blk} {x:Sch} {cs:List Value} {w:World} (h:RSch.rd S w cs x) (hz:szS x) (hpn:x.params.length≤1000000) :
 Calls Tryz.prog 23 #[.agg cs.toArray] w fun e w'=>e= .returned (.tuple #[.string (kBM x),.int .i64 (kCF (kAI x))])∧Below w.heap.size w w':=by
 have HV:Hid (∀ W,Below w.heap.size w W→Calls Tryz.prog 17 #[.agg cs.toArray] W fun e w'=>e= .returned (.bool (kAI x))∧Below W.heap.size W w'):=hJ (fun W hW=>kC7 (RSch.below h hW) hz hpn);have HZ:=hJ hz;obtain ⟨p,t,q,rfl,⟨ap,cp,rfl,hp⟩,⟨at_,ct,rfl,ht⟩,⟨aq,cq,rfl,hq⟩⟩:=h;have HPs0:=hJ hp;have HTs0:=hJ ht;have HQs0:=hJ hq;have hmq:=hq.small;have hmp:=hp.small;clear hp ht hq hz;obtain ⟨B0,ya,hW0⟩:=box1 w 29 [.slice ap x.params.length cp,.string x.result.elem,.string x.result.shape.row,.slice at_ x.result.shape.dims.length ct,.slice aq x.wh.length cq];have xa0:=box0 ya 0 _ rfl;have xa1:=box0 ya 1 _ rfl;have xa2:=box0 ya 2 _ rfl;have xa3:=box0 ya 3 _ rfl;have xa4:=box0 ya 4 _ rfl;clear ya;have HC:=hJ (HV.out _ B0.out);cases hv:kAI x with
 | false =>
   have HF:Hid (kBM x=⟨#[]⟩):=hJ (by unfold kBM;rw [hv];rfl);rw [hv] at HC;clear HV;go_enter func23,ntmps23
   go_wp2_with fail
   refine (HC.out).mono ?_;rintro e w1 ⟨rfl,hb⟩
   go_wp2_with fail
   go_returns
   exact ⟨by rw [HF.out];rfl,B0.out.trans (hb.mono B0.out.size)⟩
 | true =>
   have HF:Hid (kBM x=kBO x):=hJ (by unfold kBM;rw [if_pos hv]);obtain ⟨hl1,hl2,_⟩:=kAY hv;obtain ⟨hva,hvr⟩:=kGN hv;have HVA:=hJ hva;have HVR:=hJ hvr;have hjt:=hJ (fun k=>joins_le kAQ 110000 (l:=x.params) (fun t ht=>kEZ (HZ.out.1 t ht)) k ⟨#[44,32]⟩ (Nat.le_refl _));have hjl:=hJ (fun k=>joins_le kAF 2000 (l:=x.wh) (fun t _=>kDK t) k ⟨#[44,32]⟩ (Nat.le_refl _));have htr:=kEZ HZ.out.2.1;have HH:Hid (kI9 x=(((⟨#[40]⟩:Str)++kAO (x.params.map kAQ) ⟨#[44,32]⟩)++⟨#[41,32,45,62,32]⟩)++kAQ x.result):=hJ rfl;have HW0:Hid (kG7 x 0=kI9 x):=hJ (by unfold kG7;rw [if_pos rfl])
   have HW1:Hid (∀ k,k<x.wh.length→kG7 x (k+1)=(if k=0 then kG7 x k++⟨#[32,119,104,101,114,101,32]⟩ else kG7 x k++⟨#[44,32]⟩)++kAF (x.wh.getD k default)):=hJ (fun k hk=>by
    unfold kG7;rw [if_neg (by omega),join_take kAF hk]
    split
    · simp only [ByteArray.append_assoc]
    · simp only [ByteArray.append_assoc])
   have HWE:Hid (kG7 x x.wh.length=kBO x):=hJ (by
    unfold kG7 kBO whereS;rw [List.take_length]
    split
    · rw [if_neg (by omega)]
    · rw [if_pos (by omega)])
   have HWz:Hid (∀ k,(kG7 x k).size≤(kI9 x).size+7+x.wh.length * 2002):=hJ (fun k=>by
    unfold kG7
    split
    · omega
    · have:=hjl.out k
      rw [ByteArray.size_append,ByteArray.size_append]
      show _+(7+_)≤_
      omega)
   have hhz:(kI9 x).size≤3000000:=by
    have h1:=hjt.out x.params.length;rw [List.take_length] at h1;have h2:x.params.length * (110000+2)≤12 * 110002:=Nat.mul_le_mul_right _ hl1;rw [HH.out,ByteArray.size_append,ByteArray.size_append,ByteArray.size_append]
    show 1+_+5+_≤_
    omega
   rw [hv] at HC;clear HV hv hva hvr hjl;go_enter func23,ntmps23
   go_wp2_with fail
   refine (HC.out).mono ?_;rintro e w1 ⟨rfl,hb⟩;have HWa:Hid (Below w.heap.size w w1):=hJ (B0.out.trans (hb.mono B0.out.size));have HPs:=hJ (HPs0.out.below HWa.out);have HTs:=hJ (HTs0.out.below HWa.out);have HQs:=hJ (HQs0.out.below HWa.out);have g0:=kAE xa0 _ hb;have g1:=kAE xa1 _ hb;have g2:=kAE xa2 _ hb;have g3:=kAE xa3 _ hb;have g4:=kAE xa4 _ hb;have hlw:w.heap.size<w1.heap.size:=kCJ g1;clear xa0 xa1 xa2 xa3 xa4 hb HC HPs0 HTs0 HQs0 B0 hW0
   go_wp2_with fail
   go_loopw [4,5] (fun o i wr=>∃ k:Nat,k≤x.params.length∧i= .int .i64 k∧o= .string ((⟨#[40]⟩:Str)++kAO ((x.params.take k).map kAQ) ⟨#[44,32]⟩)∧Below w1.heap.size w1 wr) (fun _ i _=>x.params.length - (intOf i).toNat)
   case atStart=>exact ⟨0,Nat.zero_le _,rfl,by rw [List.take_zero,List.map_nil,kGG,kCZ],Below.refl _ _⟩
   case round =>
    obtain ⟨k,hk,rfl,rfl,hB⟩:=hrel;have r0:=kAE g0 _ hB;have hwr:=hB.size;have hjz:=hjt.out k;have hjm:x.params.length * (110000+2)≤12 * 110002:=Nat.mul_le_mul_right _ hl1;have hos:((⟨#[40]⟩:Str)++kAO ((x.params.take k).map kAQ) ⟨#[44,32]⟩).size≤1400000:=by rw [ByteArray.size_append];show 1+_≤_;omega
    by_cases hlt:k<x.params.length
    · obtain ⟨b,off,rfl,hbW,_⟩:=HPs.out.form k hlt
      obtain ⟨_,hr,⟨ta,tc,rfl,_⟩,c0,c1,c2⟩:=(HPs.out.below hB).typ k hlt;have hjn:=join_take kAQ hlt ⟨#[44,32]⟩;have hZk:=HZ.out.1 _ (kAJ hlt);have HPr:=hJ (fun W hW=>kE7 (RTyp.below (w':=W) hr hW) hZk);have hvk:=HVA.out _ (kAJ hlt);have htz:=kEZ hZk;have hpt:kBQ (x.params.getD k default)=kAQ (x.params.getD k default):=by unfold kBQ;rw [if_pos hvk]
      rw [hpt,hvk] at HPr;clear hr hZk hvk hpt;generalize x.params.getD k default=y at *;generalize kAQ y=d at *;by_cases hk0:k=0
      · have HJ:Hid ((⟨#[40]⟩:Str)++kAO ((x.params.take (k+1)).map kAQ) ⟨#[44,32]⟩=((⟨#[40]⟩:Str)++kAO ((x.params.take k).map kAQ) ⟨#[44,32]⟩)++d):=hJ (by
         rw [hjn,if_pos hk0,hk0,List.take_zero,List.map_nil,kGG,kCZ])
        have hkz:¬ (0:Int)<(k:Int):=by omega
        clear hjn hk0 hjz hjm;generalize (⟨#[40]⟩:Str)++kAO ((x.params.take k).map kAQ) ⟨#[44,32]⟩=o at *
        go_wp2_with fail
        refine (HPr.out _ (Below.refl _ _)).mono ?_;rintro e w5 ⟨rfl,hb5⟩
        go_wp2_with fail
        go_roundw
        case rel=>exact ⟨k+1,by omega,by go_num,by rw [HJ.out],hB.trans (hb5.mono hwr)⟩
        case measure=>simp [intOf];omega
      · have HJ:Hid ((⟨#[40]⟩:Str)++kAO ((x.params.take (k+1)).map kAQ) ⟨#[44,32]⟩=(((⟨#[40]⟩:Str)++kAO ((x.params.take k).map kAQ) ⟨#[44,32]⟩)++⟨#[44,32]⟩)++d):=hJ (by
         rw [hjn,if_neg hk0];simp only [ByteArray.append_assoc])
        have hkz:(0:Int)<(k:Int):=by omega
        clear hjn hk0 hjz hjm;generalize (⟨#[40]⟩:Str)++kAO ((x.params.take k).map kAQ) ⟨#[44,32]⟩=o at *;have hos2:(o++(⟨#[44,32]⟩:Str)).size≤1400002:=by rw [ByteArray.size_append];show _+2≤_;omega
        go_wp2_with fail
        refine (HPr.out _ (Below.refl _ _)).mono ?_;rintro e w5 ⟨rfl,hb5⟩
        go_wp2_with fail
        go_roundw
        case rel=>exact ⟨k+1,by omega,by go_num,by rw [HJ.out],hB.trans (hb5.mono hwr)⟩
        case measure=>simp [intOf];omega
    · obtain rfl:k=x.params.length:=by omega
      rw [List.take_length] at hos ⊢;have r1:=kAE g1 _ hB;have r2:=kAE g2 _ hB;have r3:=kAE g3 _ hB;have r4:=kAE g4 _ hB;have HPr:=hJ (kE7 (x:=x.result) (cs:=[.string x.result.elem,.string x.result.shape.row,.slice at_ x.result.shape.dims.length ct]) (w:=wr) ⟨_,rfl,at_,ct,rfl,HTs.out.below hB⟩ HZ.out.2.1);have hpt:kBQ x.result=kAQ x.result:=by unfold kBQ;rw [if_pos HVR.out]
      rw [hpt,HVR.out] at HPr;have hh2:=HH.out;clear hpt hjz hjm;generalize (⟨#[40]⟩:Str)++kAO (x.params.map kAQ) ⟨#[44,32]⟩=o at *;have HH2:Hid (kI9 x=o++((⟨#[41,32,45,62,32]⟩:Str)++kAQ x.result)):=hJ (by rw [hh2,ByteArray.append_assoc]);clear hh2 HH;generalize kAQ x.result=d at *;have hds:((⟨#[41,32,45,62,32]⟩:Str)++d).size≤110005:=by rw [ByteArray.size_append];show 5+_≤_;omega
      go_wp2_with fail
      refine HPr.out.mono ?_;rintro e w5 ⟨rfl,hb5⟩;have HB5:Hid (Below w1.heap.size w1 w5):=hJ (hB.trans (hb5.mono hwr));have q4:=kAE g4 _ HB5.out;clear r0 r1 r2 r3 r4 HPr hb5
      go_wp2_with fail
      go_loopw [4,10] (fun o i wr=>∃ k:Nat,k≤x.wh.length∧i= .int .i64 k∧o= .string (kG7 x k)∧Below w1.heap.size w1 wr) (fun _ i _=>x.wh.length - (intOf i).toNat)
      case atStart=>exact ⟨0,Nat.zero_le _,rfl,by rw [HW0.out,HH2.out],HB5.out⟩
      case round =>
       clear q4 hB hwr;obtain ⟨k,hk,rfl,rfl,hB⟩:=hrel;have r4:=kAE g4 _ hB;have hwr:=hB.size;have hwz:=HWz.out k;have hwm:x.wh.length * 2002≤60 * 2002:=Nat.mul_le_mul_right _ hl2;by_cases hlt:k<x.wh.length
       · obtain ⟨b,off,rfl,hbW,_⟩:=HQs.out.form k hlt
         obtain ⟨_,hr,⟨ta,tc,rfl,_⟩,c0,c1⟩:=(HQs.out.below hB).lin k hlt;have hZk:=HZ.out.2.2 _ (kAJ hlt);have HPr:=hJ (fun W hW=>kI7 (RLin.below (w':=W) hr hW) hZk);have hjn:=HW1.out k hlt;have hpz:=kDK (x.wh.getD k default);clear hr hZk;generalize x.wh.getD k default=y at *;generalize kAF y=dd at *;generalize kG7 x k=oo at *;have hoz:oo.size≤3200000:=by omega
         by_cases hk0:k=0
         · rw [if_pos hk0] at hjn
           have HJ:=hJ hjn;have hkz:((k:Int)==0)=true:=beq_iff_eq.2 (by omega);have hos2:(oo++(⟨#[32,119,104,101,114,101,32]⟩:Str)).size≤4000000:=by rw [ByteArray.size_append];show _+7≤_;omega
           clear hjn hk0 hwz hwm
           go_wp2_with fail
           refine (HPr.out _ (Below.refl _ _)).mono ?_;rintro e w6 ⟨rfl,hb6⟩
           go_wp2_with fail
           go_roundw
           case rel=>exact ⟨k+1,by omega,by go_num,by rw [HJ.out],hB.trans (hb6.mono hwr)⟩
           case measure=>simp [intOf];omega
         · rw [if_neg hk0] at hjn
           have HJ:=hJ hjn;have hkz:((k:Int)==0)=false:=beq_eq_false_iff_ne.2 (by omega);have hos2:(oo++(⟨#[44,32]⟩:Str)).size≤4000000:=by rw [ByteArray.size_append];show _+2≤_;omega
           clear hjn hk0 hwz hwm
           go_wp2_with fail
           refine (HPr.out _ (Below.refl _ _)).mono ?_;rintro e w6 ⟨rfl,hb6⟩
           go_wp2_with fail
           go_roundw
           case rel=>exact ⟨k+1,by omega,by go_num,by rw [HJ.out],hB.trans (hb6.mono hwr)⟩
           case measure=>simp [intOf];omega
       · obtain rfl:k=x.wh.length:=by omega
         rw [HWE.out]
         go_wp2_with fail
         go_returns
         exact ⟨by rw [HF.out];rfl,HWa.out.trans (hB.mono HWa.out.size)⟩
end Go.Proofs.YtkndimjghfomcaaGreatDoor
