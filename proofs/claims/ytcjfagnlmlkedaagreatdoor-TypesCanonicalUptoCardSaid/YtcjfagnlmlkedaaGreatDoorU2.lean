/- The claim's texts, part U2: contracts of the functions that the statement reaches, and what they say of the data. -/
import Derived.Test.YtcjfagnlmlkedaaGreatDoorU1
set_option maxRecDepth 100000
set_option maxHeartbeats 8000000
set_option linter.all false
namespace Go.Proofs.YtcjfagnlmlkedaaGreatDoor
open Go.Proofs.Tryz
open Go.RowKit
theorem cmpB:∀ (x y:List UInt8),Lib.compareBytes x y=if Op.bytesLess x y=true then -1 else if Op.bytesLess y x=true then 1 else 0
 | [],[]=>rfl
 | [],_ :: _=>rfl
 | _ :: _,[]=>rfl
 | a :: x,b :: y=>by
   unfold Lib.compareBytes Op.bytesLess;by_cases h1:a<b
   · simp [h1]
   · by_cases h2:b<a
     · have:¬ a=b:=by intro e;subst e;exact h1 h2
       have h3:¬ a<b:=h1;simp [h1,h2,this]
     · have:a=b:=UInt8.le_antisymm (UInt8.not_lt.1 h2) (UInt8.not_lt.1 h1)
       subst this;simp [h1,cmpB x y]
def cmpS (a b:Str):Int:=if slt a b then -1 else if slt b a then 1 else 0
theorem kH5 (a b:Str) (w:World):Calls Tryz.prog 60 #[.string a,.string b] w fun e w'=>e= .returned (.int .i64 (cmpS a b))∧w=w':=by
 refine (Tryz.strings_Compare a b w).mono ?_;rintro e w' ⟨rfl,rfl⟩;refine ⟨?_,rfl⟩;unfold cmpS slt;rw [cmpB,ByteArray.toList_eq,ByteArray.toList_eq]
theorem linear_order (a b:Int) (w:World):Calls Tryz.prog 77 #[.int .i64 a,.int .i64 b] w fun e w'=>e= .returned (.int .i64 (ordI a b))∧w=w':=by
 unfold ordI;by_cases h0:a<b
 · have q:decide (a<b)=true:=decide_eq_true h0
   go_enter func77,ntmps77
   go_wp2_with fail
   go_ret;exact ⟨rfl,rfl⟩
 · by_cases h1:b<a
   · go_enter func77,ntmps77
     go_wp2_with fail
     go_ret;exact ⟨rfl,rfl⟩
   · go_enter func77,ntmps77
     go_wp2_with fail
     go_ret;exact ⟨rfl,rfl⟩
theorem cmpCoef_s (s t:Coef):kAY s t=if cmpS s.v t.v=0 then ordI s.c t.c else cmpS s.v t.v:=by
 unfold kAY cmpS;cases slt s.v t.v <;> cases slt t.v s.v <;> simp
theorem linear_Compare_1 (s t:Coef) (w:World):Calls Tryz.prog 76 #[.agg #[.string s.v,.int .i64 s.c],.agg #[.string t.v,.int .i64 t.c]] w fun e w'=>e= .returned (.int .i64 (kAY s t))∧Below w.heap.size w w':=by
 obtain ⟨B0,ya,yb,hW0⟩:=box2 w 44 [.string s.v,.int .i64 s.c] 44 [.string t.v,.int .i64 t.c];have xa0:=box0 ya 0 _ rfl;have xa1:=box0 ya 1 _ rfl;have xb0:=box0 yb 0 _ rfl;have xb1:=box0 yb 1 _ rfl;clear ya yb;have HN:=hJ (cmpCoef_s s t);have HC:=fun w=>kH5 s.v t.v w
 generalize cmpS s.v t.v=d at *;have HC:=hJ HC;by_cases hd:d=0
 · have HF:Hid (kAY s t=ordI s.c t.c):=hJ (by rw [HN.out,if_pos hd])
   have hq:(d != 0)=false:=by rw [hd];rfl
   go_enter func76,ntmps76
   go_wp2_with fail
   refine (HC.out _).mono ?_;rintro e _ ⟨rfl,rfl⟩
   go_wp2_with fail
   refine (linear_order _ _ _).mono ?_;rintro e _ ⟨rfl,rfl⟩
   go_wp2_with fail
   go_ret;exact ⟨by rw [HF.out];rfl,B0.out⟩
 · have HF:Hid (kAY s t=d):=hJ (by rw [HN.out,if_neg hd])
   have hq:(d != 0)=true:=bne_iff_ne.2 hd;go_enter func76,ntmps76
   go_wp2_with fail
   refine (HC.out _).mono ?_;rintro e _ ⟨rfl,rfl⟩
   go_wp2_with fail
   go_ret;exact ⟨by rw [HF.out];rfl,B0.out⟩
theorem compareFunc_Coef {S T:Blk} (l l2:List Coef) (a a2:Option Addr) (n n2 c c2:Nat) (w:World) (h:Sl kA7 S w a n c l) (h2:Sl kA7 T w a2 n2 c2 l2) :
 Calls Tryz.prog 75 #[.slice a n c,.slice a2 n2 c2,.func (.func 76) #[] #[]] w fun e w'=>e= .returned (.int .i64 (kAR l l2))∧Below w.heap.size w w':=by
 have H:=hJ h;have H2:=hJ h2;have hn:=h.small;have hn2:=h2.small;clear h h2;have hen:=kBJ func76 rfl rfl;go_enter func75,ntmps75
 go_wp2_with fail
 go_loopw [13] (fun i wr=>∃ k:Nat,k≤n∧k≤n2∧i= .int .i64 k∧Hid (∀ j,j<k→kAY (l.getD j default) (l2.getD j default)=0)∧Below w.heap.size w wr) (fun i _=>n - (intOf i).toNat)
 case atStart=>exact ⟨0,Nat.zero_le _,Nat.zero_le _,rfl,fun j hj=>absurd hj (by omega),zB _ _⟩
 case round =>
  obtain ⟨k,hk,hk2,rfl,HT,hB⟩:=hrel;by_cases hlt:k<n
  · obtain ⟨b,off,rfl,hbW,_⟩:=H.out.form k hlt
    have HR:=hJ (H.out.below hB);obtain ⟨c0,c1⟩:=HR.out.coef k hlt;by_cases hlt2:k<n2
    · obtain ⟨b2,off2,rfl,hbW2,_⟩:=H2.out.form k hlt2
      have HR2:=hJ (H2.out.below hB);obtain ⟨d0,d1⟩:=HR2.out.coef k hlt2;have HS:Hid (kAY (l.getD k default) (l2.getD k default)≠0→kAR l l2=kAY (l.getD k default) (l2.getD k default)):=hJ (fun q=>cmp_stop (by rw [H.out.len];exact hlt) (by rw [H2.out.len];exact hlt2) HT.out q);have HG:Hid (kAY (l.getD k default) (l2.getD k default)=0→∀ j,j<k+1→kAY (l.getD j default) (l2.getD j default)=0):=hJ (fun q=>upto HT.out q);generalize l.getD k default=x at *;generalize l2.getD k default=y at *;have hA1:Below wr.heap.size wr (wr.alloc (.cells #[.string x.v,.int .i64 x.c] 44)):=(zB _ _).alloc (zR _) _;have e0:=kAE d0 _ hA1;have e1:=kAE d1 _ hA1;clear hA1 d0 d1;have HC:=hJ (linear_Compare_1 x y);generalize kAY x y=d at *;by_cases hd:d=0
      · have HGo:=hJ (HG.out hd)
        have hq:(d != 0)=false:=by rw [hd];rfl
        clear hd
        go_wp2_with (go_at_call 76;refine (HC.out _).mono ?_;rintro e w' ⟨rfl,hb'⟩)
        go_roundw
        case rel=>exact ⟨k+1,by omega,by omega,by go_num,HGo,(hB.trans ((blw2 _ _ _).mono hB.size)).trans (hb'.mono (zE hB.size (blw2 _ _ _).size))⟩
        case measure=>simp [intOf];omega
      · have HF:=hJ (HS.out hd)
        have hq:(d != 0)=true:=bne_iff_ne.2 hd;clear hd
        go_wp2_with (go_at_call 76;refine (HC.out _).mono ?_;rintro e w' ⟨rfl,hb'⟩)
        go_ret;exact ⟨by rw [HF.out];rfl,(hB.trans ((blw2 _ _ _).mono hB.size)).trans (hb'.mono (zE hB.size (blw2 _ _ _).size))⟩
    · have HF:Hid (kAR l l2=1):=hJ (by
       rw [cmp_end (k:=k) (.inr (by rw [H2.out.len];omega)) (by rw [H.out.len];omega) (by rw [H2.out.len];omega) HT.out,H.out.len,H2.out.len];unfold ordI;rw [if_neg (by omega),if_pos (by omega)])
      have hq:(n2:Int)≤(k:Int):=by omega
      go_wp2_with fail
      go_ret;exact ⟨by rw [HF.out];rfl,hB.alloc hB.size _⟩
  · obtain rfl:k=n:=by omega
    have HE:Hid (kAR l l2=ordI k n2):=hJ (by
     rw [cmp_end (k:=k) (.inl (by rw [H.out.len])) (by rw [H.out.len];omega) (by rw [H2.out.len];omega) HT.out,H.out.len,H2.out.len])
    by_cases hq:k<n2
    · have HF:Hid (kAR l l2= -1):=hJ (by rw [HE.out];unfold ordI;rw [if_pos (by omega)])
      go_wp2_with fail
      go_ret;exact ⟨by rw [HF.out];rfl,hB⟩
    · have HF:Hid (kAR l l2=0):=hJ (by rw [HE.out];unfold ordI;rw [if_neg (by omega),if_neg (by omega)])
      go_wp2_with fail
      go_ret;exact ⟨by rw [HF.out];rfl,hB⟩
theorem linear_Compare {S T:Blk} {x y:Lin} {cs ds:List Value} {w:World} (h:RLin.rd S w cs x) (h2:RLin.rd T w ds y) :
 Calls Tryz.prog 27 #[.agg cs.toArray,.agg ds.toArray] w fun e w'=>e= .returned (.int .i64 (kAX x y))∧Below w.heap.size w w':=by
 obtain ⟨t,rfl,a,c,rfl,hs⟩:=h;obtain ⟨t2,rfl,a2,c2,rfl,hs2⟩:=h2;obtain ⟨B0,ya,yb,hW0⟩:=box2 w 40 [.int .i64 x.const,.slice a x.terms.length c] 40 [.int .i64 y.const,.slice a2 y.terms.length c2];have xa0:=box0 ya 0 _ rfl;have xa1:=box0 ya 1 _ rfl;have xb0:=box0 yb 0 _ rfl;have xb1:=box0 yb 1 _ rfl;clear ya yb;have HC:=hJ (compareFunc_Coef x.terms y.terms a a2 _ _ c c2 _ (hs.below B0.out) (hs2.below B0.out));have HN:Hid (kAX x y=if kAR x.terms y.terms=0 then ordI x.const y.const else kAR x.terms y.terms):=hJ rfl;clear hs hs2;generalize kAR x.terms y.terms=d at *;by_cases hd:d=0
 · have HF:Hid (kAX x y=ordI x.const y.const):=hJ (by rw [HN.out,if_pos hd])
   have hq:(d != 0)=false:=by rw [hd];rfl
   clear hd;go_enter func27,ntmps27
   go_wp2_with fail
   refine (HC.out).mono ?_;rintro e w1 ⟨rfl,hb⟩;have e0:=kAE xa0 _ hb;have f0:=kAE xb0 _ hb
   go_wp2_with fail
   refine (linear_order _ _ _).mono ?_;rintro e _ ⟨rfl,rfl⟩
   go_wp2_with fail
   go_ret;exact ⟨by rw [HF.out];rfl,B0.out.trans (hb.mono B0.out.size)⟩
 · have HF:Hid (kAX x y=d):=hJ (by rw [HN.out,if_neg hd])
   have hq:(d != 0)=true:=bne_iff_ne.2 hd;clear hd;go_enter func27,ntmps27
   go_wp2_with fail
   refine (HC.out).mono ?_;rintro e w1 ⟨rfl,hb⟩
   go_wp2_with fail
   go_ret;exact ⟨by rw [HF.out];rfl,B0.out.trans (hb.mono B0.out.size)⟩
theorem ordI_lt {a b:Int} (h:a<b):ordI a b= -1:=by unfold ordI;rw [if_pos h]
theorem ordI_gt {a b:Int} (h:b<a):ordI a b=1:=by unfold ordI;rw [if_neg (by omega),if_pos h]
theorem cmp_less {x y:Coef} (h:slt x.v y.v=true):kAY x y= -1:=by unfold kAY;rw [if_pos h]
theorem cmp_eq {x y:Coef} (h:seq x.v y.v=true):kAY x y=ordI x.c y.c:=by
 have e:=(kA6 _ _).1 h;unfold kAY;rw [e,kCG];rfl
theorem cmp_more {x y:Coef} (h:slt x.v y.v=false) (h2:seq x.v y.v=false):kAY x y=1:=by
 unfold kAY;rw [h];cases q:slt y.v x.v with
 | true=>rfl
 | false=>have:=kFJ h q;rw [this,seq_refl] at h2;cases h2
theorem kF8 {S T:Blk} {x y:Lin} {cs ds:List Value} {w:World} (h:RLin.rd S w cs x) (h2:RLin.rd T w ds y) :
 Calls Tryz.prog 85 #[.agg cs.toArray,.agg ds.toArray] w fun e w'=>e= .returned (.int .i64 (kAX x y))∧Below w.heap.size w w':=by
 obtain ⟨t,rfl,a,c,rfl,hs⟩:=h;obtain ⟨t2,rfl,a2,c2,rfl,hs2⟩:=h2;have hn:=hs.small;have hn2:=hs2.small;generalize hL:x.terms.length=n at *;generalize hL2:y.terms.length=n2 at *;obtain ⟨B0,ya,yb,hW0⟩:=box2 w 40 [.int .i64 x.const,.slice a n c] 40 [.int .i64 y.const,.slice a2 n2 c2];have xa0:=box0 ya 0 _ rfl;have xa1:=box0 ya 1 _ rfl;have xb0:=box0 yb 0 _ rfl;have xb1:=box0 yb 1 _ rfl;clear ya yb;have H:=hJ (hs.below B0.out);have H2:=hJ (hs2.below B0.out);clear hs hs2;have HL:=hJ hL;have HL2:=hJ hL2;have HN:Hid (kAX x y=if kAR x.terms y.terms=0 then ordI x.const y.const else kAR x.terms y.terms):=hJ rfl;clear hL hL2;go_enter func85,ntmps85
 go_wp2_with fail
 generalize ((w.alloc (.cells #[.int .i64 x.const,.slice a n c] 40)).alloc (.cells #[.int .i64 y.const,.slice a2 n2 c2] 40))=W at *
 go_loopw [5] (fun i wr=>∃ k:Nat,k≤n∧k≤n2∧i= .int .i64 k∧Hid (∀ j,j<k→kAY (x.terms.getD j default) (y.terms.getD j default)=0)∧Below W.heap.size W wr) (fun i _=>n - (intOf i).toNat)
 case atStart=>exact ⟨0,Nat.zero_le _,Nat.zero_le _,rfl,fun j hj=>absurd hj (by omega),zB _ _⟩
 case round =>
  obtain ⟨k,hk,hk2,rfl,HT,hB⟩:=hrel;have e1:=kAE xa1 _ hB;have f1:=kAE xb1 _ hB;by_cases hlt:k<n∧k<n2
  · obtain ⟨hlt,hlt2⟩:=hlt
    have q1:decide ((k:Int)<(n:Int))=true:=decide_eq_true (by omega);obtain ⟨b,off,rfl,hbW,_⟩:=H.out.form k hlt;obtain ⟨b2,off2,rfl,hbW2,_⟩:=H2.out.form k hlt2;have HR:=hJ (H.out.below hB);have HR2:=hJ (H2.out.below hB);obtain ⟨c0,c1⟩:=HR.out.coef k hlt;obtain ⟨d0,d1⟩:=HR2.out.coef k hlt2;have HS:Hid (kAY (x.terms.getD k default) (y.terms.getD k default)≠0→kAR x.terms y.terms=kAY (x.terms.getD k default) (y.terms.getD k default)):=hJ (fun q=>cmp_stop (by rw [HL.out];exact hlt) (by rw [HL2.out];exact hlt2) HT.out q);have HG:Hid (kAY (x.terms.getD k default) (y.terms.getD k default)=0→∀ j,j<k+1→kAY (x.terms.getD j default) (y.terms.getD j default)=0):=hJ (fun q=>upto HT.out q);generalize x.terms.getD k default=s at *;generalize y.terms.getD k default=t at *;have hb1:b<wr.heap.size:=Nat.lt_of_lt_of_le hbW hB.size;have hb2:b2<wr.heap.size:=Nat.lt_of_lt_of_le hbW2 hB.size;have hw1:w.heap.size<wr.heap.size:=by have:=hB.size;omega
    have hw2:w.heap.size+1<wr.heap.size:=by have:=hB.size;omega
    clear xa0 xb0;have HV:Hid (kAR x.terms y.terms≠0→kAX x y=kAR x.terms y.terms):=hJ (fun q=>by rw [HN.out,if_neg q])
    have HD:Hid (∀ d:Int,d≠0→kAY s t=d→kAX x y=d):=hJ (fun d q e=>by
     have e2:=HS.out (by rw [e];exact q);rw [HV.out (by rw [e2,e];exact q),e2,e])
    have hgd:∀ (o o2:Operand) (xs ys:Array Value) w,(eqGuard .neq 44 o o2 (.agg xs) (.agg ys)).run Tryz.prog w= .ok () w:=fun o o2 xs ys w=>run_eqGuard_agg w .neq _ o o2 xs ys (by kernel_rfl)
    have HEq:Hid (kC1 s t=((s.v.toList==t.v.toList) && s.c==t.c)):=hJ rfl;have HL1:=hJ (@cmp_less s t);have HL2:=hJ (@cmp_eq s t);have HL3:=hJ (@cmp_more s t);by_cases hl:Op.bytesLess s.v.toList t.v.toList=true
    · have HF:Hid (kAX x y= -1):=hJ (HD.out (-1) (by decide) (HL1.out hl))
      go_wp2_with fail
      go_region
      all_goals
       go_wp2_with fail
       go_ret;exact ⟨by rw [HF.out];rfl,B0.out.trans ((((hB.alloc hB.size _).alloc (hB.alloc hB.size _).size _).drew).mono B0.out.size)⟩
    have hl:Op.bytesLess s.v.toList t.v.toList=false:=by simpa using hl
    by_cases he:(s.v.toList==t.v.toList)=true
    · have HO:=hJ (HL2.out he)
      by_cases hc:s.c<t.c
      · have HF:Hid (kAX x y= -1):=hJ (HD.out (-1) (by decide) (by rw [HO.out];unfold ordI;rw [if_pos hc]))
        have qc:decide (s.c<t.c)=true:=decide_eq_true hc
        go_wp2_with fail
        go_region
        all_goals
         go_wp2_with fail
         go_ret;exact ⟨by rw [HF.out];rfl,B0.out.trans ((((hB.alloc hB.size _).alloc (hB.alloc hB.size _).size _).drew).mono B0.out.size)⟩
      have qc:decide (s.c<t.c)=false:=decide_eq_false hc;by_cases hce:s.c=t.c
      · have HGo:=hJ (HG.out (by rw [HO.out];exact (kDY _ _).2 hce))
        have hbin:∀ w,(binOp .neq 44 (.agg #[.string s.v,.int .i64 s.c]) (.agg #[.string t.v,.int .i64 t.c])).run Tryz.prog w= .ok (.bool false) w:=fun w=>by rw [kIY,HEq.out,he,beq_iff_eq.2 hce];rfl
        clear hce hc
        go_wp2_with fail
        go_region
        all_goals
         go_wp2_with fail
         go_roundw
         case rel=>exact ⟨k+1,by omega,by omega,by go_num,HGo,(((hB.alloc hB.size _).alloc (hB.alloc hB.size _).size _).drew)⟩
         case measure=>simp [intOf];omega
      · have HF:Hid (kAX x y=1):=hJ (HD.out 1 (by decide) (by rw [HO.out];unfold ordI;rw [if_neg hc,if_pos (by omega)]))
        have hbin:∀ w,(binOp .neq 44 (.agg #[.string s.v,.int .i64 s.c]) (.agg #[.string t.v,.int .i64 t.c])).run Tryz.prog w= .ok (.bool true) w:=fun w=>by rw [kIY,HEq.out,he,beq_eq_false_iff_ne.2 hce];rfl
        clear hce hc
        go_wp2_with fail
        go_region
        all_goals
         go_wp2_with fail
         go_ret;exact ⟨by rw [HF.out];rfl,B0.out.trans ((((hB.alloc hB.size _).alloc (hB.alloc hB.size _).size _).drew).mono B0.out.size)⟩
    · have he:(s.v.toList==t.v.toList)=false:=by simpa using he
      have HF:Hid (kAX x y=1):=hJ (HD.out 1 (by decide) (HL3.out hl he));have hbin:∀ w,(binOp .neq 44 (.agg #[.string s.v,.int .i64 s.c]) (.agg #[.string t.v,.int .i64 t.c])).run Tryz.prog w= .ok (.bool true) w:=fun w=>by rw [kIY,HEq.out,he];rfl
      go_wp2_with fail
      go_region
      all_goals
       go_wp2_with fail
       go_ret;exact ⟨by rw [HF.out];rfl,B0.out.trans ((((hB.alloc hB.size _).alloc (hB.alloc hB.size _).size _).drew).mono B0.out.size)⟩
  · have HE:Hid (kAR x.terms y.terms=ordI n n2):=hJ (by
     rw [cmp_end (k:=k) (by rw [HL.out,HL2.out];omega) (by rw [HL.out];omega) (by rw [HL2.out];omega) HT.out,HL.out,HL2.out])
    have e0:=kAE xa0 _ hB;have f0:=kAE xb0 _ hB;have HW:=hJ (B0.out.trans (hB.mono B0.out.size));rcases Nat.lt_trichotomy n n2 with g | g | g
    · have HF:Hid (kAX x y= -1):=hJ (by rw [HN.out,HE.out,ordI_lt (by omega)];rfl)
      have p1:decide ((k:Int)<(n:Int))=false:=decide_eq_false (by omega);have p2:decide ((n:Int)<(n2:Int))=true:=decide_eq_true (by omega)
      go_wp2_with fail
      go_ret;exact ⟨by rw [HF.out];rfl,HW.out⟩
    · subst g
      have HF:Hid (kAX x y=ordI x.const y.const):=hJ (by rw [HN.out,HE.out,(kDY _ _).2 rfl,if_pos rfl]);have p1:decide ((k:Int)<(n:Int))=false:=decide_eq_false (by omega);have p2:decide ((n:Int)<(n:Int))=false:=decide_eq_false (by omega);rcases Int.lt_trichotomy x.const y.const with r | r | r
      · have HF:Hid (kAX x y= -1):=hJ (by rw [HF.out];unfold ordI;rw [if_pos r])
        have p3:decide (x.const<y.const)=true:=decide_eq_true r
        go_wp2_with fail
        go_ret;exact ⟨by rw [HF.out];rfl,HW.out⟩
      · have HF:Hid (kAX x y=0):=hJ (by rw [HF.out];exact (kDY _ _).2 r)
        have p3:decide (x.const<y.const)=false:=decide_eq_false (by omega);have p4:decide (y.const<x.const)=false:=decide_eq_false (by omega)
        go_wp2_with fail
        go_ret;exact ⟨by rw [HF.out];rfl,HW.out⟩
      · have HF:Hid (kAX x y=1):=hJ (by rw [HF.out];unfold ordI;rw [if_neg (by omega),if_pos r])
        have p3:decide (x.const<y.const)=false:=decide_eq_false (by omega);have p4:decide (y.const<x.const)=true:=decide_eq_true r
        go_wp2_with fail
        go_ret;exact ⟨by rw [HF.out];rfl,HW.out⟩
    · have HF:Hid (kAX x y=1):=hJ (by rw [HN.out,HE.out,ordI_gt (by omega)];rfl)
      have p5:decide ((k:Int)<(n2:Int))=false:=decide_eq_false (by omega);have p2:decide ((n:Int)<(n2:Int))=false:=decide_eq_false (by omega);have p3:((n:Int)==(n2:Int))=false:=beq_eq_false_iff_ne.2 (by omega);have p4:decide ((n2:Int)<(n:Int))=true:=decide_eq_true (by omega);have p1:decide ((k:Int)<(n:Int))=true:=decide_eq_true (by omega)
      go_wp2_with fail
      go_ret;exact ⟨by rw [HF.out];rfl,HW.out⟩
theorem kF7 {S T:Blk} {x y:Lin} {cs ds:List Value} {w:World} (h:RLin.rd S w cs x) (h2:RLin.rd T w ds y) :
 Calls Tryz.prog 35 #[.agg cs.toArray,.agg ds.toArray] w fun e w'=>e= .returned (.bool (kCN x y))∧Below w.heap.size w w':=by
 obtain ⟨t,rfl,a,c,rfl,hs⟩:=h;obtain ⟨t2,rfl,a2,c2,rfl,hs2⟩:=h2;obtain ⟨B0,ya,yb,hW0⟩:=box2 w 40 [.int .i64 x.const,.slice a x.terms.length c] 40 [.int .i64 y.const,.slice a2 y.terms.length c2];have xa0:=box0 ya 0 _ rfl;have xa1:=box0 ya 1 _ rfl;have xb0:=box0 yb 0 _ rfl;have xb1:=box0 yb 1 _ rfl;clear ya yb;have HC:=hJ (kF8 (x:=x) (y:=y) (S:=S) (T:=T) ⟨_,rfl,a,c,rfl,hs.below B0.out⟩ ⟨_,rfl,a2,c2,rfl,hs2.below B0.out⟩);have HN:=hJ (eqLin_cmp x y);clear hs hs2;generalize kAX x y=d at *;go_enter func35,ntmps35
 go_wp2_with fail
 refine (HC.out).mono ?_;rintro e w1 ⟨rfl,hb⟩
 go_wp2_with fail
 go_ret;exact ⟨by rw [← HN.out];rfl,B0.out.trans (hb.mono B0.out.size)⟩
theorem neqB {a b:List UInt8} (h:(a==b)=true):(a != b)=false:=by unfold bne;rw [h];rfl
theorem neqB' {a b:List UInt8} (h:(a==b)=false):(a != b)=true:=by unfold bne;rw [h];rfl
theorem ref11_Equal {S T:Blk} {x y:Shp} {cs ds:List Value} {w:World} (h:RShp.rd S w cs x) (h2:RShp.rd T w ds y) :
 Calls Tryz.prog 86 #[.agg cs.toArray,.agg ds.toArray] w fun e w'=>e= .returned (.bool (kG6 x y))∧Below w.heap.size w w':=by
 obtain ⟨t,rfl,a,c,rfl,hs⟩:=h;obtain ⟨t2,rfl,a2,c2,rfl,hs2⟩:=h2;have hn:=hs.small;have hn2:=hs2.small;generalize hL:x.dims.length=n at *;generalize hL2:y.dims.length=n2 at *;obtain ⟨B0,ya,yb,hW0⟩:=box2 w 25 [.string x.row,.slice a n c] 25 [.string y.row,.slice a2 n2 c2];have xa0:=box0 ya 0 _ rfl;have xa1:=box0 ya 1 _ rfl;have xb0:=box0 yb 0 _ rfl;have xb1:=box0 yb 1 _ rfl;clear ya yb;have H:=hJ (hs.below B0.out);have H2:=hJ (hs2.below B0.out);have HL:=hJ hL;have HL2:=hJ hL2;have HN:Hid (kG6 x y=((x.row.toList==y.row.toList) && kBI kCN x.dims y.dims)):=hJ rfl;clear hs hs2 hL hL2;by_cases hc:(x.row.toList==y.row.toList)=true
 case neg =>
  have hc:(x.row.toList==y.row.toList)=false:=by simpa using hc
  have hcn:=neqB' hc;have HF:Hid (kG6 x y=false):=hJ (by rw [HN.out,hc];rfl);go_enter func86,ntmps86
  go_wp2_with fail
  go_ret;exact ⟨by rw [HF.out];rfl,B0.out⟩
 have hcn:=neqB hc;have HN:Hid (kG6 x y=kBI kCN x.dims y.dims):=hJ (by rw [HN.out,hc];rfl);by_cases hnn:n=n2
 case neg =>
  have HF:Hid (kG6 x y=false):=hJ (by rw [HN.out];exact eq_len _ (by rw [HL.out,HL2.out];exact hnn));have q:((n:Int) != (n2:Int))=true:=bne_iff_ne.2 (by omega);go_enter func86,ntmps86
  go_wp2_with fail
  go_ret;exact ⟨by rw [HF.out];rfl,B0.out⟩
 subst hnn;have q:((n:Int) != (n:Int))=false:=by simp
 go_enter func86,ntmps86
 go_wp2_with fail
 generalize ((w.alloc (.cells #[.string x.row,.slice a n c] 25)).alloc (.cells #[.string y.row,.slice a2 n c2] 25))=W at *
 go_loopw [5] (fun i wr=>∃ k:Nat,k≤n∧i= .int .i64 k∧Hid (∀ j,j<k→kCN (x.dims.getD j default) (y.dims.getD j default)=true)∧Below W.heap.size W wr) (fun i _=>n - (intOf i).toNat)
 case atStart=>exact ⟨0,Nat.zero_le _,rfl,fun j hj=>absurd hj (by omega),zB _ _⟩
 case round =>
  obtain ⟨k,hk,rfl,HT,hB⟩:=hrel;have e1:=kAE xa1 _ hB;have f1:=kAE xb1 _ hB;have HW:=hJ (B0.out.trans (hB.mono B0.out.size));by_cases hlt:k<n
  · obtain ⟨b,off,rfl,hbW,_⟩:=H.out.form k hlt
    obtain ⟨b2,off2,rfl,hbW2,_⟩:=H2.out.form k hlt;have HK:Hid (k<x.dims.length):=hJ (by rw [HL.out];exact hlt);have HK2:Hid (k<y.dims.length):=hJ (by rw [HL2.out];exact hlt);have HR:=hJ (H.out.below hB);have HR2:=hJ (H2.out.below hB);obtain ⟨t,hr,hd,c0,c1⟩:=HR.out.lin k hlt;obtain ⟨t2,hr2,hd2,d0,d1⟩:=HR2.out.lin k hlt;have HH:Hid (kCN (x.dims.getD k default) (y.dims.getD k default)=false→kG6 x y=false):=hJ (fun q=>by rw [HN.out];exact eq_stop _ HK.out HK2.out q);have HG:Hid (kCN (x.dims.getD k default) (y.dims.getD k default)=true→∀ j,j<k+1→kCN (x.dims.getD j default) (y.dims.getD j default)=true):=hJ (fun q=>upto HT.out q);have HRd:=hJ hr;have HRd2:=hJ hr2;clear hd hr hd2 hr2 xa0 xa1 xb0 xb1;generalize x.dims.getD k default=s at *;generalize y.dims.getD k default=t at *;have HC:=hJ (fun (u:Later wr)=>kF7 (RLin.below HRd.out u.b) (RLin.below HRd2.out u.b));have c0:=Later.cell c0;have c1:=Later.cell c1;have d0:=Later.cell d0;have d1:=Later.cell d1;have e1:=Later.cell e1;have f1:=Later.cell f1;by_cases hq:kCN s t=true
    · have HGo:=hJ (HG.out hq)
      rw [hq] at HC;clear hq
      go_wp2_with fail
      refine kAC (by kernel_rfl) (by kernel_rfl) ?_
      repeat (go_big_quiet_step (first | fail | exact Later.call (HC.out _)))
      refine wpQuiet_nil ?_;rintro _ ⟨t9,rfl⟩
      go_wp2_with fail
      go_roundw
      case rel=>exact ⟨k+1,by omega,by go_num,HGo,hB.trans (t9.b.mono hB.size)⟩
      case measure=>simp [intOf];omega
    · have hq:kCN s t=false:=by simpa using hq
      have HF:=hJ (HH.out hq);rw [hq] at HC;clear hq
      go_wp2_with fail
      refine kAC (by kernel_rfl) (by kernel_rfl) ?_
      repeat (go_big_quiet_step (first | fail | exact Later.call (HC.out _)))
      refine wpQuiet_nil ?_;rintro _ ⟨t9,rfl⟩
      go_wp2_with fail
      go_ret;exact ⟨by rw [HF.out];rfl,HW.out.trans (t9.b.mono HW.out.size)⟩
  · have HF:Hid (kG6 x y=true):=hJ (by rw [HN.out];exact eq_done _ (by rw [HL.out,HL2.out]) fun j hj=>HT.out j (by rw [HL.out] at hj;omega))
    go_wp2_with fail
    go_ret;exact ⟨by rw [HF.out];rfl,HW.out⟩
theorem ref12_Equal {S T:Blk} {x y:Typ} {cs ds:List Value} {w:World} (h:RTyp.rd S w cs x) (h2:RTyp.rd T w ds y) :
 Calls Tryz.prog 34 #[.agg cs.toArray,.agg ds.toArray] w fun e w'=>e= .returned (.bool (kI6 x y))∧Below w.heap.size w w':=by
 obtain ⟨t,rfl,a,c,rfl,hs⟩:=h;obtain ⟨t2,rfl,a2,c2,rfl,hs2⟩:=h2;obtain ⟨B0,ya,yb,hW0⟩:=box2 w 27 [.string x.elem,.string x.shape.row,.slice a x.shape.dims.length c] 27 [.string y.elem,.string y.shape.row,.slice a2 y.shape.dims.length c2];have xa0:=box0 ya 0 _ rfl;have xa1:=box0 ya 1 _ rfl;have xa2:=box0 ya 2 _ rfl;have xb0:=box0 yb 0 _ rfl;have xb1:=box0 yb 1 _ rfl;have xb2:=box0 yb 2 _ rfl;clear ya yb;have HC:=hJ (ref11_Equal (x:=x.shape) (y:=y.shape) (S:=S) (T:=T) (cs:=[.string x.shape.row,.slice a x.shape.dims.length c]) (ds:=[.string y.shape.row,.slice a2 y.shape.dims.length c2]) ⟨_,rfl,a,c,rfl,hs.below B0.out⟩ ⟨_,rfl,a2,c2,rfl,hs2.below B0.out⟩);have HN:Hid (kI6 x y=((x.elem.toList==y.elem.toList) && kG6 x.shape y.shape)):=hJ rfl;clear hs hs2;by_cases hc:(x.elem.toList==y.elem.toList)=true
 · have HF:Hid (kI6 x y=kG6 x.shape y.shape):=hJ (by rw [HN.out,hc];rfl)
   go_enter func34,ntmps34
   go_wp2_with fail
   refine (HC.out).mono ?_;rintro e w1 ⟨rfl,hb⟩
   go_wp2_with fail
   go_ret;exact ⟨by rw [HF.out];rfl,B0.out.trans (hb.mono B0.out.size)⟩
 · have hc:(x.elem.toList==y.elem.toList)=false:=by simpa using hc
   have HF:Hid (kI6 x y=false):=hJ (by rw [HN.out,hc];rfl);go_enter func34,ntmps34
   go_wp2_with fail
   go_ret;exact ⟨by rw [HF.out];rfl,B0.out⟩
def kAN:List Coef→Str→Int
 | [],_=>0
 | t :: l,v=>if seq t.v v then t.c else kAN l v
def Srt (l:List Coef):Prop:=l.Pairwise fun a b=>slt a.v b.v=true
def Nz (l:List Coef):Prop:=∀ t ∈ l,t.c≠0
def Bd (n:Int) (l:List Coef):Prop:=∀ t ∈ l,-n≤t.c∧t.c≤n
def kBC (s:Str) (c:Int) (p:Bool × List Coef) (t:Coef):Bool × List Coef :=
 if seq t.v s then (true,(if !p.1 && slt s t.v then p.2++[⟨s,c⟩] else p.2)++[⟨t.v,t.c+c⟩])
 else (p.1 || slt s t.v,(if !p.1 && slt s t.v then p.2++[⟨s,c⟩] else p.2)++[t])
def plusRun (s:Str) (c:Int) (l:List Coef):Bool × List Coef:=l.foldl (kBC s c) (false,[])
def plusF (l:List Coef) (s:Str) (c:Int):List Coef:=if (plusRun s c l).1 then (plusRun s c l).2 else (plusRun s c l).2++[⟨s,c⟩]
def nzB (t:Coef):Bool:=t.c != 0
def plus (l:List Coef) (s:Str) (c:Int):List Coef:=(plusF l s c).filter nzB
def ins (s:Str) (c:Int):List Coef→List Coef
 | []=>[⟨s,c⟩]
 | t :: l=>if slt s t.v then ⟨s,c⟩ :: t :: l else if seq t.v s then ⟨t.v,t.c+c⟩ :: l else t :: ins s c l
theorem slt_ne {a b:Str} (h:slt a b=true):seq a b=false:=by
 rw [Bool.eq_false_iff];intro e;rw [(kA6 a b).1 e,kCG] at h;cases h
theorem slt_ne' {a b:Str} (h:slt a b=true):seq b a=false:=by rw [kHG];exact slt_ne h
theorem run_put (s:Str) (c:Int):∀ (l:List Coef) (acc:List Coef),(∀ t ∈ l,slt s t.v=true)→l.foldl (kBC s c) (true,acc)=(true,acc++l)
 | [],acc,_=>by simp
 | t :: l,acc,h=>by
   have ht:=h t (zM ..);rw [List.foldl_cons]
   have:kBC s c (true,acc) t=(true,acc++[t]):=by
    unfold kBC;rw [slt_ne' ht];simp
   rw [this,run_put s c l _ (fun u hu=>h u (zO _ hu))];simp
theorem run_srt (s:Str) (c:Int):∀ (l:List Coef) (acc:List Coef),Srt l→(let p:=l.foldl (kBC s c) (false,acc);if p.1 then p.2 else p.2++[⟨s,c⟩])=acc++ins s c l
 | [],acc,_=>by simp [ins]
 | t :: l,acc,h=>by
   have h1:=(List.pairwise_cons.1 h).1;have h2:=(List.pairwise_cons.1 h).2;rw [List.foldl_cons];by_cases hs:slt s t.v=true
   · have:kBC s c (false,acc) t=(true,acc++[⟨s,c⟩]++[t]):=by
      unfold kBC;rw [slt_ne' hs,hs];simp
     rw [this,run_put s c l _ (fun u hu=>kEK hs (h1 u hu))];simp [ins,hs]
   · have hs:slt s t.v=false:=by simpa using hs
     by_cases he:seq t.v s=true
     · have:kBC s c (false,acc) t=(true,acc++[⟨t.v,t.c+c⟩]):=by
        unfold kBC;rw [he,hs];simp
       have hv:=(kA6 _ _).1 he;rw [this,run_put s c l _ (fun u hu=>hv ▸ h1 u hu)];simp [ins,hs,he]
     · have he:seq t.v s=false:=by simpa using he
       have:kBC s c (false,acc) t=(false,acc++[t]):=by
        unfold kBC;rw [he,hs];simp
       rw [this,run_srt s c l _ h2];simp [ins,hs,he]
theorem kEM {l:List Coef} (h:Srt l) (s:Str) (c:Int):plusF l s c=ins s c l:=by
 have:=run_srt s c l [] h;rw [List.nil_append] at this;exact this
theorem ins_mem (s:Str) (c:Int):∀ (l:List Coef) (t:Coef),t ∈ ins s c l→t.v=s∨t ∈ l
 | [],t,h=>by simp [ins] at h;subst h;exact .inl rfl
 | u :: l,t,h=>by
   unfold ins at h
   split at h
   · rcases List.mem_cons.1 h with rfl | h
     · exact .inl rfl
     · exact .inr h
   · split at h
     · next he =>
       rcases List.mem_cons.1 h with rfl | h
       · exact .inl ((kA6 _ _).1 he)
       · exact .inr (zO _ h)
     · rcases List.mem_cons.1 h with rfl | h
       · exact .inr (zM ..)
       · rcases ins_mem s c l t h with q | q
         · exact .inl q
         · exact .inr (zO _ q)
theorem ins_srt (s:Str) (c:Int):∀ (l:List Coef),Srt l→Srt (ins s c l)
 | [],_=>by simp [ins,Srt]
 | t :: l,h=>by
   have h1:=(List.pairwise_cons.1 h).1;have h2:=(List.pairwise_cons.1 h).2;unfold ins
   split
   · next hs=>exact List.pairwise_cons.2 ⟨fun u hu=>by
      rcases List.mem_cons.1 hu with rfl | hu
      · exact hs
      · exact kEK hs (h1 u hu),h⟩
   · next hs =>
     split
     · exact List.pairwise_cons.2 ⟨h1,h2⟩
     · next he =>
       refine List.pairwise_cons.2 ⟨fun u hu=>?_,ins_srt s c l h2⟩;rcases ins_mem s c l u hu with q | q
       · rw [q]
         cases hq:slt t.v s with
         | true=>rfl
         | false=>exact absurd ((kA6 _ _).2 (kFJ hq (by simpa using hs))) he
       · exact h1 u q
theorem kCY:∀ (l:List Coef) (v:Str),(∀ t ∈ l,seq t.v v=false)→kAN l v=0
 | [],_,_=>rfl
 | t :: l,v,h=>by
   unfold kAN;rw [h t (zM ..)];exact kCY l v (fun u hu=>h u (zO _ hu))
theorem kDU {a b v:Str} (h:seq a b=true):seq a v=seq b v:=by rw [(kA6 a b).1 h]
theorem ins_coef (s:Str) (c:Int) (v:Str):∀ (l:List Coef),Srt l→kAN (ins s c l) v=kAN l v+if seq s v then c else 0
 | [],_=>by simp [ins,kAN]
 | t :: l,h=>by
   have h1:=(List.pairwise_cons.1 h).1;have h2:=(List.pairwise_cons.1 h).2;unfold ins
   split
   · next hs =>
     by_cases hv:seq s v=true
     · have:kAN (t :: l) v=0:=kCY _ _ (fun u hu=>by
        rw [← kHG,← kDU hv,];rcases List.mem_cons.1 hu with rfl | hu
        · exact slt_ne hs
        · exact slt_ne (kEK hs (h1 u hu)))
       rw [this,hv];simp [kAN,hv]
     · have hv:seq s v=false:=by simpa using hv
       rw [hv]
       conv=>lhs;unfold kAN
       rw [hv];simp
   · split
     · next he =>
       conv=>lhs;unfold kAN
       conv=>rhs;unfold kAN
       show (if seq t.v v then t.c+c else kAN l v)=_
       rw [kDU he]
       split <;> simp
     · next he =>
       conv=>lhs;unfold kAN
       conv=>rhs;unfold kAN
       rw [ins_coef s c v l h2]
       split
       · next hv =>
         have:seq s v=false:=by
          rw [Bool.eq_false_iff];intro q;exact he ((kA6 _ _).2 (((kA6 _ _).1 hv).trans ((kA6 _ _).1 q).symm))
         rw [this];simp
       · rfl
theorem kIE (v:Str):∀ (l:List Coef),Srt l→kAN (l.filter nzB) v=kAN l v
 | [],_=>rfl
 | t :: l,h=>by
   have h1:=(List.pairwise_cons.1 h).1;have h2:=(List.pairwise_cons.1 h).2;rw [List.filter_cons]
   split
   · unfold kAN;rw [kIE v l h2]
   · next hz =>
     have hz:t.c=0:=by simpa [nzB] using hz
     conv=>rhs;unfold kAN
     rw [kIE v l h2]
     split
     · next hv=>rw [hz];exact kCY _ _ (fun u hu=>by rw [kHG,← kDU hv];exact slt_ne (h1 u hu))
     · rfl
theorem filter_srt {l:List Coef} (h:Srt l):Srt (l.filter nzB):=List.Pairwise.sublist List.filter_sublist h
theorem filter_nz (l:List Coef):Nz (l.filter nzB):=fun t ht=>by
 have:=(List.mem_filter.1 ht).2
 simpa [nzB] using this
theorem kHM {l:List Coef} (h:Srt l) (s:Str) (c:Int):Srt (plus l s c):=by
 unfold plus;rw [kEM h];exact filter_srt (ins_srt s c l h)
theorem plus_nz (l:List Coef) (s:Str) (c:Int):Nz (plus l s c):=filter_nz _
theorem plus_coef {l:List Coef} (h:Srt l) (s:Str) (c:Int) (v:Str):kAN (plus l s c) v=kAN l v+if seq s v then c else 0:=by
 unfold plus;rw [kEM h,kIE v _ (ins_srt s c l h),ins_coef s c v l h]
theorem kDM {l:List Coef} (h:Srt l) {t:Coef} (ht:t ∈ l):kAN l t.v=t.c:=by
 induction l with
 | nil=>cases ht
 | cons u l ih =>
   have h1:=(List.pairwise_cons.1 h).1;have h2:=(List.pairwise_cons.1 h).2;unfold kAN;rcases List.mem_cons.1 ht with rfl | ht
   · rw [seq_refl];rfl
   · rw [slt_ne (h1 t ht)];exact ih h2 ht
theorem mem_coefAt {l:List Coef} {v:Str} (h:kAN l v≠0):∃ t ∈ l,t.v=v:=by
 induction l with
 | nil=>exact absurd rfl h
 | cons u l ih =>
   unfold kAN at h
   split at h
   · next q=>exact ⟨u,zM ..,(kA6 _ _).1 q⟩
   · obtain ⟨t,ht,e⟩:=ih h
     exact ⟨t,zO _ ht,e⟩
theorem srt_ext:∀ (l l2:List Coef),Srt l→Srt l2→Nz l→Nz l2→(∀ v,kAN l v=kAN l2 v)→l=l2
 | [],[],_,_,_,_,_=>rfl
 | [],b :: l2,_,h2,_,n2,e=>by
   have:=e b.v;rw [kDM h2 (zM ..)] at this;exact absurd this.symm (n2 b (zM ..))
 | a :: l,[],h1,_,n1,_,e=>by
   have:=e a.v;rw [kDM h1 (zM ..)] at this;exact absurd this (n1 a (zM ..))
 | a :: l,b :: l2,h1,h2,n1,n2,e=>by
   have p1:=(List.pairwise_cons.1 h1).1;have p2:=(List.pairwise_cons.1 h2).1;have ea:=e a.v;rw [kDM h1 (zM ..)] at ea;have eb:=e b.v;rw [kDM h2 (zM ..)] at eb;obtain ⟨ta,hta,va⟩:=mem_coefAt (l:=b :: l2) (v:=a.v) (by rw [← ea];exact n1 a (zM ..));obtain ⟨tb,htb,vb⟩:=mem_coefAt (l:=a :: l) (v:=b.v) (by rw [eb];exact n2 b (zM ..))
   have hv:a.v=b.v:=by
    rcases List.mem_cons.1 hta with rfl | hta
    · exact va.symm
    · rcases List.mem_cons.1 htb with rfl | htb
      · exact vb
      · have q1:=p2 ta hta
        have q2:=p1 tb htb;rw [va] at q1;rw [vb] at q2;rw [kFK q1] at q2;cases q2
   have hc:a.c=b.c:=by rw [ea,hv];exact kDM h2 (zM ..)
   obtain rfl:a=b:=by cases a;cases b;simp only at hv hc;subst hv hc;rfl
   congr 1
   refine srt_ext l l2 (List.pairwise_cons.1 h1).2 (List.pairwise_cons.1 h2).2 (fun t ht=>n1 t (zO _ ht)) (fun t ht=>n2 t (zO _ ht)) (fun v=>?_);by_cases hq:seq a.v v=true
   · rw [kCY l v (fun u hu=>by rw [kHG,← kDU hq];exact slt_ne (p1 u hu)),kCY l2 v (fun u hu=>by rw [kHG,← kDU hq];exact slt_ne (p2 u hu))]
   · have:=e v
     unfold kAN at this;have hq:seq a.v v=false:=by simpa using hq
     rw [hq] at this
     simpa using this
theorem ins_len (s:Str) (c:Int):∀ l:List Coef,(ins s c l).length≤l.length+1
 | []=>by simp [ins]
 | t :: l=>by
   unfold ins;have:=ins_len s c l
   split
   · simp
   · split
     · simp
     · simp;exact this
theorem plus_len {l:List Coef} (h:Srt l) (s:Str) (c:Int):(plus l s c).length≤l.length+1:=by
 unfold plus;rw [kEM h];exact zE (List.length_filter_le ..) (ins_len s c l)
theorem ins_bd (s:Str) (c:Int) (n m:Int) (hc: -m≤c∧c≤m) (hn:0≤n) (hm:0≤m):∀ l:List Coef,Bd n l→Bd (n+m) (ins s c l)
 | [],_=>fun t ht=>by simp [ins] at ht;subst ht;simp only;omega
 | u :: l,h=>fun t ht=>by
   have hu:=h u (zM ..);have hw:∀ t ∈ u :: l,-(n+m)≤t.c∧t.c≤n+m:=fun t ht=>by have:=h t ht;omega
   unfold ins at ht
   split at ht
   · rcases List.mem_cons.1 ht with rfl | ht
     · simp only;omega
     · exact hw t ht
   · split at ht
     · rcases List.mem_cons.1 ht with rfl | ht
       · simp only;omega
       · exact hw t (zO _ ht)
     · rcases List.mem_cons.1 ht with rfl | ht
       · exact hw _ (zM ..)
       · exact ins_bd s c n m hc hn hm l (fun t ht=>h t (zO _ ht)) t ht
theorem plus_bd {l:List Coef} (h:Srt l) (s:Str) (c:Int) {n m:Int} (hb:Bd n l) (hc: -m≤c∧c≤m) (hn:0≤n) (hm:0≤m):Bd (n+m) (plus l s c):=by
 unfold plus;rw [kEM h];exact fun t ht=>ins_bd s c n m hc hn hm l hb t (List.mem_filter.1 ht).1
def kBL (l:List Coef) (x:List Coef) (k:Int):List Coef:=x.foldl (fun a t=>plus a t.v (k * t.c)) l
def kCJ (l x:Lin) (k:Int):Lin:=⟨l.const+k * x.const,kBL l.terms x.terms k⟩
theorem times_srt (x:List Coef) (k:Int):∀ l:List Coef,Srt l→Srt (kBL l x k):=by
 induction x with
 | nil=>exact fun l h=>h
 | cons t x ih=>exact fun l h=>ih _ (kHM h _ _)
theorem times_nz (x:List Coef) (k:Int):∀ l:List Coef,Nz l→Nz (kBL l x k):=by
 induction x with
 | nil=>exact fun l h=>h
 | cons t x ih=>exact fun l h=>ih _ (plus_nz _ _ _)
theorem times_len (x:List Coef) (k:Int):∀ l:List Coef,Srt l→(kBL l x k).length≤l.length+x.length:=by
 induction x with
 | nil=>exact fun l h=>zR _
 | cons t x ih =>
   intro l h;have h1:=ih _ (kHM h t.v (k * t.c));have h2:=plus_len h t.v (k * t.c);rw [List.length_cons]
   show (kBL (plus l t.v (k * t.c)) x k).length≤_
   omega
theorem mul_bd {k c n m:Int} (hk: -n≤k∧k≤n) (hc: -m≤c∧c≤m): -(n * m)≤k * c∧k * c≤n * m:=by
 have hn:0≤n:=by omega
 have hm:0≤m:=by omega
 have h1:k.natAbs≤n.toNat:=by omega
 have h2:c.natAbs≤m.toNat:=by omega
 have h3:(k * c).natAbs≤(n * m).toNat:=by
  rw [Int.natAbs_mul,Int.toNat_mul hn hm];exact Nat.mul_le_mul h1 h2
 have h4:0≤n * m:=Int.mul_nonneg hn hm;omega
theorem times_bd (x:List Coef) (k:Int) (hk: -1000000≤k∧k≤1000000) (hx:Bd 1000000 x):∀ (l:List Coef) (n:Int),0≤n→Srt l→Bd n l→Bd (n+x.length * 1000000000000) (kBL l x k):=by
 induction x with
 | nil=>intro l n hn hs h;simpa [kBL] using h
 | cons t x ih =>
   intro l n hn hs h;have hc:=mul_bd hk (hx t (zM ..));have h1:=ih (fun u hu=>hx u (zO _ hu)) (plus l t.v (k * t.c)) (n+1000000 * 1000000) (by omega) (kHM hs _ _) (plus_bd hs _ _ h hc hn (by decide));have e:n+1000000 * 1000000+(x.length:Int) * 1000000000000=n+((t :: x).length:Int) * 1000000000000:=by rw [List.length_cons];omega
   rw [e] at h1;exact h1
structure TotC {α :Type} (cmp: α → α →Int):Prop where
 zero:∀ a b,cmp a b=0 ↔ a=b
 anti:∀ a b,cmp b a= -cmp a b
 trans:∀ a b c,cmp a b<0→cmp b c<0→cmp a c<0
def SS {α :Type} (cmp: α → α →Int) (l:List α):Prop:=l.Pairwise fun a b=>cmp a b<0
def Le {α :Type} (cmp: α → α →Int) (l:List α):Prop:=l.Pairwise fun a b=>cmp a b≤0
def insU {α :Type} (cmp: α → α →Int) (x: α):List α →List α
 | []=>[x]
 | y :: l=>if cmp y x<0 then y :: insU cmp x l else if cmp y x=0 then y :: l else x :: y :: l
theorem insU_mem {α :Type} {cmp: α → α →Int} (t:TotC cmp) (x z: α):∀ l:List α,z ∈ insU cmp x l ↔ z=x∨z ∈ l
 | []=>by simp [insU]
 | y :: l=>by
   unfold insU
   split
   · rw [List.mem_cons,insU_mem t x z l,List.mem_cons]
     constructor
     · rintro (h | h | h)
       · exact .inr (.inl h)
       · exact .inl h
       · exact .inr (.inr h)
     · rintro (h | h | h)
       · exact .inr (.inl h)
       · exact .inl h
       · exact .inr (.inr h)
   · split
     · next h =>
       have:=(t.zero _ _).1 h;subst this;simp
     · simp
theorem insU_ss {α :Type} {cmp: α → α →Int} (t:TotC cmp) (x: α):∀ l:List α,SS cmp l→SS cmp (insU cmp x l)
 | [],_=>by simp [insU,SS]
 | y :: l,h=>by
   have h1:=(List.pairwise_cons.1 h).1;have h2:=(List.pairwise_cons.1 h).2;unfold insU
   split
   · next hy =>
     refine List.pairwise_cons.2 ⟨fun z hz=>?_,insU_ss t x l h2⟩;rcases (insU_mem t x z l).1 hz with rfl | q
     · exact hy
     · exact h1 z q
   · next hy =>
     split
     · exact h
     · next hz =>
       have hxy:cmp x y<0:=by have:=t.anti y x;omega
       refine List.pairwise_cons.2 ⟨fun z hz=>?_,h⟩;rcases List.mem_cons.1 hz with rfl | q
       · exact hxy
       · exact t.trans _ _ _ hxy (h1 z q)
theorem ss_ext {α :Type} {cmp: α → α →Int} (t:TotC cmp):∀ (l l2:List α),SS cmp l→SS cmp l2→(∀ x,x ∈ l ↔ x ∈ l2)→l=l2
 | [],[],_,_,_=>rfl
 | [],b :: l2,_,_,e=>absurd ((e b).2 (zM ..)) (by simp)
 | a :: l,[],_,_,e=>absurd ((e a).1 (zM ..)) (by simp)
 | a :: l,b :: l2,h1,h2,e=>by
   have p1:=(List.pairwise_cons.1 h1).1;have p2:=(List.pairwise_cons.1 h2).1;have irr:∀ x,¬ cmp x x<0:=fun x h=>by have:=(t.zero x x).2 rfl;omega
   have hab:a=b:=by
    rcases List.mem_cons.1 ((e a).1 (zM ..)) with q | q
    · exact q
    · rcases List.mem_cons.1 ((e b).2 (zM ..)) with r | r
      · exact r.symm
      · exact absurd (t.trans _ _ _ (p2 a q) (p1 b r)) (irr b)
   subst hab
   congr 1
   refine ss_ext t l l2 (List.pairwise_cons.1 h1).2 (List.pairwise_cons.1 h2).2 (fun x=>?_)
   constructor
   · intro hx
     rcases List.mem_cons.1 ((e x).1 (zO _ hx)) with q | q
     · subst q;exact absurd (p1 _ hx) (irr _)
     · exact q
   · intro hx
     rcases List.mem_cons.1 ((e x).2 (zO _ hx)) with q | q
     · subst q;exact absurd (p2 _ hx) (irr _)
     · exact q
def tidyG {α :Type} (cmp: α → α →Int) (d: α →Bool) (l:List α):List α :=l.foldl (fun out x=>if d x then out else insU cmp x out) []
theorem kIL {α :Type} {cmp: α → α →Int} (t:TotC cmp) (d: α →Bool):∀ (l out:List α),SS cmp out→SS cmp (l.foldl (fun out x=>if d x then out else insU cmp x out) out)∧∀ z,z ∈ l.foldl (fun out x=>if d x then out else insU cmp x out) out ↔ (z ∈ out∨z ∈ l∧d z=false)
 | [],out,h=>⟨h,fun z=>by simp⟩
 | x :: l,out,h=>by
   rw [List.foldl_cons];cases hd:d x with
   | true =>
     obtain ⟨q1,q2⟩:=kIL t d l out h;refine ⟨q1,fun z=>(q2 z).trans ?_⟩;rw [List.mem_cons]
     constructor
     · rintro (h | ⟨h1,h2⟩)
       · exact .inl h
       · exact .inr ⟨.inr h1,h2⟩
     · rintro (h | ⟨rfl | h1,h2⟩)
       · exact .inl h
       · rw [hd] at h2;cases h2
       · exact .inr ⟨h1,h2⟩
   | false =>
     obtain ⟨q1,q2⟩:=kIL t d l (insU cmp x out) (insU_ss t x out h);refine ⟨q1,fun z=>(q2 z).trans ?_⟩;rw [insU_mem t,List.mem_cons]
     constructor
     · rintro ((rfl | h) | ⟨h1,h2⟩)
       · exact .inr ⟨.inl rfl,hd⟩
       · exact .inl h
       · exact .inr ⟨.inr h1,h2⟩
     · rintro (h | ⟨rfl | h1,h2⟩)
       · exact .inl (.inr h)
       · exact .inl (.inl rfl)
       · exact .inr ⟨h1,h2⟩
theorem tidyG_ss {α :Type} {cmp: α → α →Int} (t:TotC cmp) (d: α →Bool) (l:List α):SS cmp (tidyG cmp d l):=(kIL t d l [] List.Pairwise.nil).1
theorem kIM {α :Type} {cmp: α → α →Int} (t:TotC cmp) (d: α →Bool) (l:List α) (z: α):z ∈ tidyG cmp d l ↔ z ∈ l∧d z=false:=by
 have:=(kIL t d l [] List.Pairwise.nil).2 z
 simpa [tidyG] using this
def kJA {α :Type} (eq: α → α →Bool):List α →List α
 | []=>[]
 | [a]=>[a]
 | a :: b :: l=>if eq a b then kJA eq (a :: l) else a :: kJA eq (b :: l)
 termination_by l=>l.length
theorem compG_ok {α :Type} {cmp: α → α →Int} (t:TotC cmp) {eq: α → α →Bool} (he:∀ a b,eq a b=true ↔ a=b):∀ l:List α,Le cmp l→SS cmp (kJA eq l)∧∀ z,z ∈ kJA eq l ↔ z ∈ l
 | [],_=>⟨by unfold kJA;exact List.Pairwise.nil,fun z=>by unfold kJA;rfl⟩
 | [a],_=>⟨by unfold kJA;simp [SS],fun z=>by unfold kJA;rfl⟩
 | a :: b :: l,h=>by
   have h1:=(List.pairwise_cons.1 h).1;have h2:=(List.pairwise_cons.1 h).2;unfold kJA
   split
   · next q =>
     have:=(he _ _).1 q;subst this;obtain ⟨q1,q2⟩:=compG_ok t he (a :: l) h2;exact ⟨q1,fun z=>(q2 z).trans (by simp)⟩
   · next q =>
     obtain ⟨q1,q2⟩:=compG_ok t he (b :: l) h2;refine ⟨List.pairwise_cons.2 ⟨fun z hz=>?_,q1⟩,fun z=>by rw [List.mem_cons,q2 z,List.mem_cons (a:=z) (b:=a)]⟩;have hb:=h1 b (zM ..)
     have hab:cmp a b<0:=by
      have:cmp a b≠0:=fun r=>q ((he _ _).2 ((t.zero _ _).1 r))
      omega
     rcases List.mem_cons.1 ((q2 z).1 hz) with rfl | r
     · exact hab
     · have h3:=(List.pairwise_cons.1 h2).1 z r
       by_cases h4:cmp b z=0
       · rw [← (t.zero _ _).1 h4];exact hab
       · exact t.trans _ _ _ hab (by omega)
 termination_by l=>l.length
theorem comp_tidy {α :Type} {cmp: α → α →Int} (t:TotC cmp) {eq: α → α →Bool} (he:∀ a b,eq a b=true ↔ a=b) (d: α →Bool) (l m:List α) (hm:Le cmp m) (hp:∀ z,z ∈ m ↔ z ∈ l.filter (fun x=> !d x)):kJA eq m=tidyG cmp d l:=by
 obtain ⟨q1,q2⟩:=compG_ok t he m hm;refine ss_ext t _ _ q1 (tidyG_ss t d l) (fun x=>?_);rw [q2 x,hp x,kIM t,List.mem_filter];simp
theorem adj_pair:∀ (l:List Coef),(∀ i,0<i→i<l.length→slt (l.getD (i - 1) default).v (l.getD i default).v=true)→Srt l
 | [],_=>List.Pairwise.nil
 | [a],_=>List.pairwise_cons.2 ⟨fun u hu=>by simp at hu,List.Pairwise.nil⟩
 | a :: b :: l,h=>by
   have ih:=adj_pair (b :: l) (fun i h0 hi=>by
    have:=h (i+1) (by omega) (by simp at hi ⊢;omega);obtain ⟨j,rfl⟩:∃ j,i=j+1:=⟨i - 1,by omega⟩
    simpa using this)
   have hab:slt a.v b.v=true:=by simpa using h 1 (by omega) (by simp)
   refine List.pairwise_cons.2 ⟨fun u hu=>?_,ih⟩;rcases List.mem_cons.1 hu with rfl | hu
   · exact hab
   · exact kEK hab ((List.pairwise_cons.1 ih).1 u hu)
theorem kAV {x:Lin} (h:kAB x=true):Srt x.terms∧Nz x.terms∧Bd 1000000 x.terms∧(∀ t ∈ x.terms,kAZ t.v=true)∧(-1000000≤x.const∧x.const≤1000000)∧x.terms.length≤12:=by
 unfold kAB at h;rw [zA,zA] at h;obtain ⟨⟨h1,h2⟩,h3⟩:=h;unfold kGQ at h1;rw [List.all_eq_true] at h1
 have hi:∀ i,i<x.terms.length→kAZ (x.terms.getD i default).v=true∧(x.terms.getD i default).c≠0∧(-1000000≤(x.terms.getD i default).c∧(x.terms.getD i default).c≤1000000)∧(0<i→slt (x.terms.getD (i - 1) default).v (x.terms.getD i default).v=true):=fun i hi=>by
  have:=h1 i (List.mem_range.2 hi);unfold kFI at this;rw [zA,zA,zA,Bool.or_eq_true] at this;obtain ⟨⟨⟨q1,q2⟩,q3⟩,q4⟩:=this;refine ⟨q1,by simpa using q2,by simpa [kCD] using q3,fun h0=>?_⟩;rcases q4 with q4 | q4
  · have:i=0:=by simpa using q4
    omega
  · exact q4
 have hm:∀ t ∈ x.terms,∃ i,i<x.terms.length∧x.terms.getD i default=t:=fun t ht=>by
  obtain ⟨i,hi,e⟩:=List.getElem_of_mem ht;exact ⟨i,hi,by rw [zD,zG hi];exact e⟩
 refine ⟨adj_pair _ fun i h0 hlt=>(hi i hlt).2.2.2 h0,fun t ht=>?_,fun t ht=>?_,fun t ht=>?_,by simpa [kCD] using h2,of_decide_eq_true h3⟩
 · obtain ⟨i,hlt,rfl⟩:=hm t ht;exact (hi i hlt).2.1
 · obtain ⟨i,hlt,rfl⟩:=hm t ht;exact (hi i hlt).2.2.1
 · obtain ⟨i,hlt,rfl⟩:=hm t ht;exact (hi i hlt).1
theorem varL_valid {s:Str} (h:kAZ s=true):kAB (varL s)=true:=by
 unfold kAB varL kGQ;simp [kFI,h,kCD,List.range_succ]
def sub1 (b:List Bnd) (v:Str):Lin:=if b.any (isB 1 v) then bndL b v else varL v
def kD4 (b:List Bnd) (c:Int) (ts:List Coef):Lin:=ts.foldl (fun acc t=>kCJ acc (sub1 b t.v) t.c) ⟨c,[]⟩
def kAD (b:List Bnd) (x:Lin):Lin:=kD4 b x.const x.terms
def GoodB (b:List Bnd):Prop:=∀ y ∈ b,y.kind=1→kAB y.dim=true
theorem kGH {α :Type} [Inhabited α] {p: α →Bool} {l:List α} (h:l.any p=true):l.findIdx p<l.length∧p (l.getD (l.findIdx p) default)=true:=by
 obtain ⟨x,hx,hp⟩:=List.any_eq_true.1 h;have hlt:=List.findIdx_lt_length_of_exists ⟨x,hx,hp⟩;refine ⟨hlt,?_⟩;rw [zD,zG hlt];exact List.findIdx_getElem
theorem kHD {b:List Bnd} (h:GoodB b) {v:Str} (hv:kAZ v=true):kAB (sub1 b v)=true:=by
 unfold sub1
 split
 · next q =>
   unfold bndL;rw [if_pos q];obtain ⟨h1,h2⟩:=kGH q;refine h _ (kAM h1) ?_;unfold isB at h2;rw [zA,beq_iff_eq] at h2;exact h2.1
 · exact varL_valid hv
structure SumOk (n:Nat) (x:Lin):Prop where
 srt:Srt x.terms
 nz:Nz x.terms
 bd:Bd (n * 12000000000000) x.terms
 lo: -(1000000+(n:Int) * 1000000000000)≤x.const
 hi:x.const≤1000000+(n:Int) * 1000000000000
 len:x.terms.length≤n * 12
theorem SumOk.times {n:Nat} {x y:Lin} (h:SumOk n x) (hy:kAB y=true) {k:Int} (hk: -1000000≤k∧k≤1000000):SumOk (n+1) (kCJ x y k):=by
 obtain ⟨q1,q2,q3,q4,q5,q6⟩:=kAV hy;have hm:=mul_bd hk q5;have h1:=h.lo;have h2:=h.hi;have h3:=h.len;refine ⟨times_srt _ _ _ h.srt,times_nz _ _ _ h.nz,fun t ht=>?_,?_,?_,?_⟩
 · have:=times_bd y.terms k hk q3 x.terms ((n:Int) * 12000000000000) (by omega) h.srt h.bd t ht
   omega
 · show _≤x.const+k * y.const
   omega
 · show x.const+k * y.const≤_
   omega
 · have:=times_len y.terms k x.terms h.srt
   show (kBL x.terms y.terms k).length≤_
   omega
theorem subRun_ok {b:List Bnd} (hg:GoodB b) {c:Int} (hc: -1000000≤c∧c≤1000000) (ts:List Coef) (ht:∀ t ∈ ts,kAZ t.v=true∧(-1000000≤t.c∧t.c≤1000000)):SumOk ts.length (kD4 b c ts):=by
 suffices H:∀ (ts:List Coef) (n:Nat) (acc:Lin),(∀ t ∈ ts,kAZ t.v=true∧(-1000000≤t.c∧t.c≤1000000))→SumOk n acc→SumOk (n+ts.length) (ts.foldl (fun acc t=>kCJ acc (sub1 b t.v) t.c) acc) by
  have:=H ts 0 ⟨c,[]⟩ ht ⟨List.Pairwise.nil,fun t ht=>by simp at ht,fun t ht=>by simp at ht,by simp only;omega,by simp only;omega,by simp⟩
  rwa [Nat.zero_add] at this
 intro ts
 induction ts with
 | nil=>exact fun n acc _ h=>h
 | cons t ts ih =>
   intro n acc ht h;have h1:=ht t (zM ..);have:=ih (n+1) _ (fun u hu=>ht u (zO _ hu)) (h.times (kHD hg h1.1) h1.2)
   rwa [List.length_cons,show n+(ts.length+1)=n+1+ts.length by omega]
theorem subRun_take {b:List Bnd} {c:Int} {ts:List Coef} {k:Nat} (h:k<ts.length):kD4 b c (ts.take (k+1))=kCJ (kD4 b c (ts.take k)) (sub1 b (ts.getD k default).v) (ts.getD k default).c:=by
 unfold kD4;rw [kAU h,List.foldl_append];rfl
theorem valid_take {x:Lin} (h:kAB x=true) {b:List Bnd} (hg:GoodB b) (k:Nat) (hk:k≤x.terms.length):SumOk k (kD4 b x.const (x.terms.take k)):=by
 obtain ⟨q1,q2,q3,q4,q5,q6⟩:=kAV h;have:=subRun_ok hg q5 (x.terms.take k) (fun t ht=>⟨q4 t (List.mem_of_mem_take ht),q3 t (List.mem_of_mem_take ht)⟩)
 rwa [zN,Nat.min_eq_left hk] at this
def kDA (s:Shp):Bool:=s.row.toList.isEmpty && s.dims.length==0
def kCV (b:Bnd):Bool :=
 if b.kind=1 then kAZ b.v && (kAB b.dim && (kDA b.row && b.elem.toList.isEmpty))
 else if b.kind=2 then kAZ b.v && (kAK b.row && (zeroL b.dim && b.elem.toList.isEmpty))
 else if b.kind=3 then kAQ b.v && (kD1 b.elem && (zeroL b.dim && kDA b.row)) else false
def bndOk (l:List Bnd) (i:Nat):Bool:=kCV (l.getD i default) && decide (kAW (l.take i) (l.getD i default).kind (l.getD i default).v<0)
def kA8 (l:List Bnd):Bool:=(List.range l.length).all (bndOk l)
theorem kES {l:List Bnd} (h:kA8 l=true) {y:Bnd} (hy:y ∈ l):kCV y=true:=by
 obtain ⟨i,hi,e⟩:=List.getElem_of_mem hy;have:=(List.all_eq_true.1 h) i (List.mem_range.2 hi);unfold bndOk at this;rw [zA] at this;rw [zD,zG hi] at this;simp only [Option.getD_some] at this;rw [← e];exact this.1
theorem kDN {l:List Bnd} (h:kA8 l=true):GoodB l:=fun y hy hk=>by
 have:=kES h hy;unfold kCV at this;rw [if_pos hk,zA,zA] at this;exact this.2.1
def kBP (b:List Bnd) (s:Shp):Shp:=if s.row.toList.isEmpty then ⟨s.row,[]⟩ else if 0≤kAW b 2 s.row then (b.getD (kAW b 2 s.row).toNat default).row else ⟨s.row,[]⟩
def dimsOk (b:List Bnd) (s:Shp):Bool:=s.dims.all (fun x=>kAB (kAD b x))
def kFZ (b:List Bnd) (s:Shp):Shp:=⟨(kBP b s).row,(kBP b s).dims++s.dims.map (kAD b)⟩
def kA0 (b:List Bnd) (s:Shp):Bool:=dimsOk b s && decide ((kBP b s).dims.length+s.dims.length≤6)
def kEN:Shp:=⟨⟨#[]⟩,[]⟩
def kGK (b:List Bnd) (s:Shp):Shp:=if kA0 b s then kFZ b s else kEN
def kCL (b:List Bnd) (s:Shp):Int:=if kA0 b s then 0 else 3
def kD8 (b:List Bnd) (e:Str):Str:=if 0≤kAW b 3 e then (b.getD (kAW b 3 e).toNat default).elem else e
def kAP (b:List Bnd) (t:Typ):Typ:=⟨kD8 b t.elem,kFZ b t.shape⟩
def kB4:Typ:=⟨⟨#[]⟩,kEN⟩
def kIQ (b:List Bnd) (t:Typ):Typ:=if kA0 b t.shape then kAP b t else kB4
def kBH (b:List Bnd) (s:Sch):Sch:=⟨s.params.map (kAP b),kAP b s.result,s.wh.map (kAD b)⟩
def kBO (b:List Bnd) (s:Sch):Bool:=kAI s && (kA8 b && (s.params.all (fun t=>kA0 b t.shape) && (kA0 b s.result.shape && s.wh.all (fun x=>kAB (kAD b x)))))
def kEQ:Sch:=⟨[],kB4,[]⟩
theorem ordI_neg (a b:Int):ordI a b<0 ↔ a<b:=by
 unfold ordI
 constructor
 · intro h
   split at h
   · assumption
   · split at h <;> omega
 · intro h;rw [if_pos h];decide
theorem ordI_anti (a b:Int):ordI b a= -ordI a b:=by
 rcases Int.lt_trichotomy a b with h | h | h
 · unfold ordI;rw [if_neg (by omega),if_pos h,if_pos h];rfl
 · subst h;rw [(kDY a a).2 rfl];rfl
 · unfold ordI;rw [if_pos h,if_neg (by omega),if_pos h]
theorem cmpCoef_anti (a b:Coef):kAY b a= -kAY a b:=by
 unfold kAY;cases h1:slt a.v b.v with
 | true=>rw [kFK h1];rfl
 | false =>
   cases h2:slt b.v a.v with
   | true=>rfl
   | false=>exact ordI_anti _ _
theorem cmpCoef_neg (a b:Coef):kAY a b<0 ↔ slt a.v b.v=true∨a.v=b.v∧a.c<b.c:=by
 unfold kAY;cases h1:slt a.v b.v with
 | true=>simp
 | false =>
   cases h2:slt b.v a.v with
   | true =>
     simp;intro e;rw [e,kCG] at h2;cases h2
   | false =>
     have:=kFJ h1 h2;simp [ordI_neg,this]
theorem cmpCoef_trans (a b c:Coef) (h1:kAY a b<0) (h2:kAY b c<0):kAY a c<0:=by
 rw [cmpCoef_neg] at *;rcases h1 with h1 | ⟨e1,h1⟩
 · rcases h2 with h2 | ⟨e2,h2⟩
   · exact .inl (kEK h1 h2)
   · exact .inl (e2 ▸ h1)
 · rcases h2 with h2 | ⟨e2,h2⟩
   · exact .inl (by rw [e1];exact h2)
   · exact .inr ⟨e1.trans e2,by omega⟩
theorem kJC:∀ (l l2:List Coef),kAR l2 l= -kAR l l2
 | [],[]=>rfl
 | [],_ :: _=>rfl
 | _ :: _,[]=>rfl
 | a :: x,b :: y=>by
   unfold kAR;rw [cmpCoef_anti a b];by_cases h:kAY a b=0
   · rw [if_pos h,if_pos (by omega),kJC x y]
   · rw [if_neg h,if_neg (by omega)]
theorem kHZ:∀ (l m n:List Coef),kAR l m<0→kAR m n<0→kAR l n<0
 | [],[],_,h,_=>by simp [kAR] at h
 | [],_ :: _,[],_,h=>by simp [kAR] at h
 | [],_ :: _,_ :: _,_,_=>by simp [kAR]
 | _ :: _,[],_,h,_=>by simp [kAR] at h
 | _ :: _,_ :: _,[],_,h=>by simp [kAR] at h
 | a :: x,b :: y,c :: z,h1,h2=>by
   unfold kAR at *;by_cases e1:kAY a b=0
   · rw [if_pos e1] at h1
     have:=(kE4 a b).1 e1;subst this;by_cases e2:kAY a c=0
     · rw [if_pos e2] at h2 ⊢
       exact kHZ x y z h1 h2
     · rw [if_neg e2] at h2 ⊢
       exact h2
   · rw [if_neg e1] at h1
     by_cases e2:kAY b c=0
     · have:=(kE4 b c).1 e2
       subst this;rw [if_neg e1];exact h1
     · rw [if_neg e2] at h2
       have:=cmpCoef_trans a b c h1 h2;rw [if_neg (by omega)];exact this
theorem totLin:TotC kAX where
 zero:=cmpLin_zero
 anti:=fun a b=>by
  unfold kAX;rw [kJC a.terms b.terms];by_cases h:kAR a.terms b.terms=0
  · rw [if_pos h,if_pos (by omega)];exact ordI_anti _ _
  · rw [if_neg h,if_neg (by omega)]
 trans:=fun a b c h1 h2=>by
  unfold kAX at *;by_cases e1:kAR a.terms b.terms=0
  · rw [if_pos e1] at h1
    rw [(kDC _ _).1 e1];by_cases e2:kAR b.terms c.terms=0
    · rw [if_pos e2] at h2 ⊢
      rw [ordI_neg] at *;omega
    · rw [if_neg e2] at h2 ⊢
      exact h2
  · rw [if_neg e1] at h1
    by_cases e2:kAR b.terms c.terms=0
    · rw [← (kDC _ _).1 e2,if_neg e1];exact h1
    · rw [if_neg e2] at h2
      have:=kHZ _ _ _ h1 h2;rw [if_neg (by omega)];exact this
def kGO (x:Lin):Bool:=x.terms.length==0 && decide (0≤x.const)
def tidy (l:List Lin):List Lin:=tidyG kAX kGO l
def addBs (out vs:List Bnd):List Bnd:=vs.foldl (fun o x=>addV o x.kind x.v) out
def kAG (s:Sch):List Bnd:=if kAI s then addAll ((allT s).foldl (fun o t=>addBs o (kBN t)) []) (s.wh.flatMap kAL) else []
def cntK (k:Int) (l:List Bnd):Nat:=l.countP (fun b=>b.kind==k)
def nm (c:UInt8) (n:Nat):Str:=⟨#[c]⟩++⟨(Lib.decDigits n).toArray⟩
def renB (n:Nat) (b:Bnd):Bnd:=if b.kind=1 then ⟨b.kind,b.v,varL (nm 110 n),b.row,b.elem⟩ else if b.kind=2 then ⟨b.kind,b.v,b.dim,⟨nm 114 n,b.row.dims⟩,b.elem⟩ else ⟨b.kind,b.v,b.dim,b.row,nm 65 n⟩
def kE9 (l:List Bnd) (i:Nat):Bnd:=renB (cntK (l.getD i default).kind (l.take (i+1))) (l.getD i default)
def ren (l:List Bnd):List Bnd:=(List.range l.length).map (kE9 l)
def canR (s:Sch):Sch:=let b:=ren (kAG s);⟨s.params.map (kAP b),kAP b s.result,tidy (s.wh.map (kAD b))⟩
def canOk (s:Sch):Bool:=kBO (ren (kAG s)) s
def can (s:Sch):Sch:=if canOk s then canR s else kEQ
theorem tidy_mem (l:List Lin) (x:Lin) (h:x ∈ tidy l):x ∈ l:=((kIM totLin kGO l x).1 h).1
theorem insU_len {α :Type} (cmp: α → α →Int) (x: α):∀ l:List α,(insU cmp x l).length≤l.length+1
 | []=>by simp [insU]
 | y :: l=>by
   have:=insU_len cmp x l;unfold insU
   split
   · simp;exact this
   · split <;> simp
theorem tidyG_len {α :Type} (cmp: α → α →Int) (d: α →Bool):∀ (l out:List α),(l.foldl (fun out x=>if d x then out else insU cmp x out) out).length≤out.length+l.length
 | [],out=>by simp
 | x :: l,out=>by
   rw [List.foldl_cons,List.length_cons]
   split
   · have:=tidyG_len cmp d l out;omega
   · have h1:=tidyG_len cmp d l (insU cmp x out)
     have h2:=insU_len cmp x out;omega
theorem tidy_len (l:List Lin):(tidy l).length≤l.length:=by have:=tidyG_len kAX kGO l [];simpa [tidy,tidyG] using this
theorem any_not {α :Type} {p: α →Bool} {l:List α} (h:∀ x ∈ l,p x=true):l.any (fun x=> !p x)=false:=by
 rw [List.any_eq_false];intro x hx;rw [h x hx];decide
theorem kBM {t:Typ} (h:kAH t=true):kD1 t.elem=true∧rowB t.shape.row=true∧t.shape.dims.length≤6∧∀ x ∈ t.shape.dims,kAB x=true:=by
 unfold kAH at h;rw [zA] at h;have h2:=kB1 h.2;have h3:=h.2;unfold kAK at h3;rw [zA] at h3;exact ⟨h.1,h3.1,h2.1,h2.2⟩
theorem validTyp_mk {t:Typ} (h1:kD1 t.elem=true) (h2:rowB t.shape.row=true) (h3:t.shape.dims.length≤6) (h4:∀ x ∈ t.shape.dims,kAB x=true):kAH t=true:=by
 unfold kAH kAK;rw [h1,h2,decide_eq_true h3,any_not h4];rfl
theorem kAO {s:Sch} (h:kAI s=true):s.params.length≤12∧s.wh.length≤60∧(∀ t ∈ s.params,kAH t=true)∧kAH s.result=true∧∀ x ∈ s.wh,kAB x=true:=by
 unfold kAI at h;rw [zA,zA,zA,zA] at h;obtain ⟨h1,h2,h3,h4,h5⟩:=h;refine ⟨of_decide_eq_true h1,of_decide_eq_true h2,fun t ht=>?_,h4,fun x hx=>?_⟩
 · rw [Bool.not_eq_true'] at h3
   have:=(List.any_eq_false.1 h3) t ht
   simpa using this
 · rw [Bool.not_eq_true'] at h5
   have:=(List.any_eq_false.1 h5) x hx
   simpa using this
theorem kH1 {s:Sch} (h1:s.params.length≤12) (h2:s.wh.length≤60) (h3:∀ t ∈ s.params,kAH t=true) (h4:kAH s.result=true) (h5:∀ x ∈ s.wh,kAB x=true):kAI s=true:=by
 unfold kAI;rw [decide_eq_true h1,decide_eq_true h2,any_not h3,h4,any_not h5];rfl
theorem kHQ {l:List Bnd} {k:Int} {v:Str} (h:0≤kAW l k v):l.getD (kAW l k v).toNat default ∈ l∧(l.getD (kAW l k v).toNat default).kind=k:=by
 unfold kAW idx at *;by_cases ha:l.any (isB k v)=true
 · rw [if_pos ha] at h ⊢
   obtain ⟨h1,h2⟩:=kGH ha;rw [Int.toNat_natCast];refine ⟨kAM h1,?_⟩;unfold isB at h2;rw [zA,beq_iff_eq] at h2;exact h2.1
 · rw [if_neg ha] at h;omega
theorem subRow_valid {b:List Bnd} (hb:kA8 b=true) {s:Shp} (hs:rowB s.row=true):rowB (kBP b s).row=true∧∀ x ∈ (kBP b s).dims,kAB x=true:=by
 unfold kBP
 split
 · exact ⟨hs,fun x hx=>by simp at hx⟩
 · split
   · next q =>
     obtain ⟨h1,h2⟩:=kHQ q;have:=kES hb h1;unfold kCV at this;rw [if_neg (by omega),if_pos h2,zA,zA] at this;have hv:=this.2.1;refine ⟨?_,(kB1 hv).2⟩;unfold kAK at hv;rw [zA] at hv;exact hv.1
   · exact ⟨hs,fun x hx=>by simp at hx⟩
theorem subEl_valid {b:List Bnd} (hb:kA8 b=true) {e:Str} (he:kD1 e=true):kD1 (kD8 b e)=true:=by
 unfold kD8
 split
 · next q =>
   obtain ⟨h1,h2⟩:=kHQ q;have:=kES hb h1;unfold kCV at this;rw [if_neg (by omega),if_neg (by omega),if_pos h2,zA,zA] at this;exact this.2.1
 · exact he
theorem kET {b:List Bnd} (hb:kA8 b=true) {t:Typ} (ht:kAH t=true) (ho:kA0 b t.shape=true):kAH (kAP b t)=true:=by
 obtain ⟨h1,h2,h3,h4⟩:=kBM ht;obtain ⟨r1,r2⟩:=subRow_valid hb h2;unfold kA0 at ho;rw [zA] at ho;refine validTyp_mk (subEl_valid hb h1) r1 ?_ ?_
 · show ((kBP b t.shape).dims++t.shape.dims.map (kAD b)).length≤6
   rw [zP,List.length_map];exact of_decide_eq_true ho.2
 · intro x hx
   rcases List.mem_append.1 hx with q | q
   · exact r2 x q
   · obtain ⟨y,hy,rfl⟩:=List.mem_map.1 q
     exact (List.all_eq_true.1 ho.1) y hy
theorem can_valid {s:Sch} (h:canOk s=true):kAI (canR s)=true:=by
 unfold canOk kBO at h;unfold canR;generalize ren (kAG s)=b at *;rw [zA,zA,zA,zA] at h;obtain ⟨hv,hb,hp,hr,hw⟩:=h;obtain ⟨h1,h2,h3,h4,h5⟩:=kAO hv;refine kH1 ?_ ?_ ?_ ?_ ?_
 · show (s.params.map _).length≤12
   rw [List.length_map];exact h1
 · have:=tidy_len (s.wh.map (kAD b))
   rw [List.length_map] at this;exact zE this h2
 · intro t ht
   obtain ⟨u,hu,rfl⟩:=List.mem_map.1 ht;exact kET hb (h3 u hu) ((List.all_eq_true.1 hp) u hu)
 · exact kET hb h4 hr
 · intro x hx
   obtain ⟨y,hy,rfl⟩:=List.mem_map.1 (tidy_mem _ x hx);exact (List.all_eq_true.1 hw) y hy
theorem kC7 {s:Str} (h:kAZ s=true):s.size≤30:=by
 rcases zF 30 s.size with q | q
 · rw [kIZ s (.inr q)] at h;cases h
 · exact q
theorem elemVar_sz {s:Str} (h:kAQ s=true):s.size≤30:=by
 unfold kAQ at h;rw [zA] at h;exact (of_decide_eq_true h.1).2
theorem list_sz (s:Str):s.toList.length=s.size:=by rw [ByteArray.toList_eq];rfl
theorem elem_sz {s:Str} (h:kD1 s=true):s.size≤30:=by
 unfold kD1 at h;rw [Bool.or_eq_true,Bool.or_eq_true] at h;rcases h with h | h | h
 · have:=list_sz s
   rw [beq_iff_eq] at h;rw [h] at this;have e:intC.length=3:=rfl;omega
 · have:=list_sz s
   rw [beq_iff_eq] at h;rw [h] at this;have e:boolC.length=4:=rfl;omega
 · exact elemVar_sz h
theorem kGE {s:Str} (h:s.toList.isEmpty=true):s.size=0:=by
 have:=list_sz s;rw [List.isEmpty_iff] at h;rw [h] at this;exact this.symm
theorem row_sz {s:Str} (h:rowB s=true):s.size≤30:=by
 unfold rowB at h;rw [Bool.or_eq_true] at h;rcases h with h | h
 · have:=kGE h;omega
 · exact kC7 h
theorem kE0 {x:Lin} (h:kAB x=true):szL x:=fun t ht=>zE (kC7 ((kAV h).2.2.2.1 t ht)) (by decide)
theorem kFM {s:Shp} (h:kAK s=true):rowB s.row=true∧s.dims.length≤6∧∀ x ∈ s.dims,kAB x=true:=by
 have h2:=kB1 h;unfold kAK at h;rw [zA] at h;exact ⟨h.1,h2.1,h2.2⟩
theorem shp_sz {s:Shp} (h:kAK s=true):szH s:=by
 obtain ⟨h1,_,h3⟩:=kFM h;exact ⟨zE (row_sz h1) (by decide),fun x hx=>kE0 (h3 x hx)⟩
theorem typ_sz {t:Typ} (h:kAH t=true):szT t:=by
 unfold kAH at h;rw [zA] at h;exact ⟨zE (elem_sz h.1) (by decide),shp_sz h.2⟩
theorem kGS {s:Sch} (h:kAI s=true):szS s:=by
 obtain ⟨_,_,h3,h4,h5⟩:=kAO h;exact ⟨fun t ht=>typ_sz (h3 t ht),typ_sz h4,fun x hx=>kE0 (h5 x hx)⟩
theorem bnd_cases {b:Bnd} (h:kCV b=true) :
 (b.kind=1∧kAZ b.v=true∧kAB b.dim=true∧b.row.row.toList.isEmpty=true∧b.row.dims.length=0∧b.elem.toList.isEmpty=true) ∨
 (b.kind=2∧kAZ b.v=true∧kAK b.row=true∧b.dim.const=0∧b.dim.terms.length=0∧b.elem.toList.isEmpty=true) ∨
 (b.kind=3∧kAQ b.v=true∧kD1 b.elem=true∧b.dim.const=0∧b.dim.terms.length=0∧b.row.row.toList.isEmpty=true∧b.row.dims.length=0):=by
 unfold kCV at h;by_cases h1:b.kind=1
 · rw [if_pos h1] at h
   unfold kDA at h;simp only [zA,beq_iff_eq] at h;obtain ⟨q1,q2,⟨q3,q4⟩,q5⟩:=h;exact .inl ⟨h1,q1,q2,q3,q4,q5⟩
 · rw [if_neg h1] at h
   by_cases h2:b.kind=2
   · rw [if_pos h2] at h
     unfold zeroL at h;simp only [zA,beq_iff_eq] at h;obtain ⟨q1,q2,⟨q3,q4⟩,q5⟩:=h;exact .inr (.inl ⟨h2,q1,q2,q3,q4,q5⟩)
   · rw [if_neg h2] at h
     by_cases h3:b.kind=3
     · rw [if_pos h3] at h
       unfold zeroL kDA at h;simp only [zA,beq_iff_eq] at h;obtain ⟨q1,q2,⟨q3,q4⟩,q5,q6⟩:=h;exact .inr (.inr ⟨h3,q1,q2,q3,q4,q5,q6⟩)
     · rw [if_neg h3] at h;cases h
theorem shape_bound {S:Blk} {x:Bnd} {cs:List Value} {w:World} (h:RBnd.rd S w cs x) (hv:kCV x=true) (E:Env w) :
 Calls Tryz.prog 89 #[.agg cs.toArray] w fun e w'=>e= .returned (.bool true)∧Below w.heap.size w w':=by
 obtain ⟨t,d,rfl,⟨a,c,rfl,ht⟩,⟨a2,c2,rfl,hd⟩⟩:=h;have hcs:=bnd_cases hv
 have HL:Hid (kAB x.dim=true→∀ W,Below w.heap.size w W→Calls Tryz.prog 66 #[.agg #[.int .i64 x.dim.const,.slice a x.dim.terms.length c]] W fun e w'=>e= .returned (.bool true)∧Below W.heap.size W w') :=
  hJ (fun q W hW=>q ▸ kCM (S:=S) x.dim a _ c W (ht.below hW) (kE0 q) (E.below hW))
 have HH:Hid (kAK x.row=true→∀ W,Below w.heap.size w W→Calls Tryz.prog 120 #[.agg #[.string x.row.row,.slice a2 x.row.dims.length c2]] W fun e w'=>e= .returned (.bool true)∧Below W.heap.size W w') :=
  hJ (fun q W hW=>q ▸ kDI (S:=S) (s:=x.row) (cs:=[.string x.row.row,.slice a2 x.row.dims.length c2]) ⟨_,rfl,a2,c2,rfl,hd.below hW⟩ (shp_sz q) (E.below hW))
 have hm1:=ht.small;have hm2:=hd.small;clear ht hd hv;obtain ⟨kind,v,dim,row,elem⟩:=x;simp only at *;generalize dim.terms.length=n at *;generalize row.dims.length=m at *;generalize dim.const=dc at *;obtain ⟨B0,ya,hW0⟩:=box1 w 42 [.int .i64 kind,.string v,.int .i64 dc,.slice a n c,.string row.row,.slice a2 m c2,.string elem];have xa0:=box0 ya 0 _ rfl;have xa1:=box0 ya 1 _ rfl;have xa2:=box0 ya 2 _ rfl;have xa3:=box0 ya 3 _ rfl;have xa4:=box0 ya 4 _ rfl;have xa5:=box0 ya 5 _ rfl;have xa6:=box0 ya 6 _ rfl;clear ya;have E0:=hJ (E.below B0.out);rcases hcs with ⟨rfl,h1,h2,h3,rfl,h5⟩ | ⟨rfl,h1,h2,rfl,rfl,h5⟩ | ⟨rfl,h1,h2,rfl,rfl,h5,rfl⟩
 · have hsz:v.size≤281474976710656:=zE (kC7 h1) (by decide)
   have HC:=hJ (h1 ▸ kBR v hsz _ E0.out);have HL:=hJ (HL.out h2);clear h1 h2 HH;cases g1:(dc==0)
   all_goals cases g2:((n:Int)==0)
   all_goals
    go_enter func89,ntmps89
    go_wp2_with fail
    refine (HC.out).mono ?_;rintro e w1 ⟨rfl,hb⟩;have y2:=kAE xa2 _ hb;have y3:=kAE xa3 _ hb;have y6:=kAE xa6 _ hb;have hW:=B0.out.trans (hb.mono B0.out.size);clear xa0 xa1 xa2 xa3 xa4 xa5 xa6
    go_wp2_with fail
    refine (HL.out _ hW).mono ?_;rintro e w2 ⟨rfl,hb2⟩;have z6:=kAE y6 _ hb2
    go_wp2_with fail
    go_ret;exact ⟨rfl,hW.trans (hb2.mono hW.size)⟩
 · have hsz:v.size≤281474976710656:=zE (kC7 h1) (by decide)
   have HC:=hJ (h1 ▸ kBR v hsz _ E0.out);have HH:=hJ (HH.out h2);clear h1 h2 HL;cases g1:row.row.toList.isEmpty
   all_goals cases g2:((m:Int)==0)
   all_goals
    go_enter func89,ntmps89
    go_wp2_with fail
    refine (HC.out).mono ?_;rintro e w1 ⟨rfl,hb⟩;have y4:=kAE xa4 _ hb;have y5:=kAE xa5 _ hb;have y6:=kAE xa6 _ hb;have hW:=B0.out.trans (hb.mono B0.out.size);clear xa0 xa1 xa2 xa3 xa4 xa5 xa6
    go_wp2_with fail
    refine (HH.out _ hW).mono ?_;rintro e w2 ⟨rfl,hb2⟩;have z6:=kAE y6 _ hb2
    go_wp2_with fail
    go_ret;exact ⟨rfl,hW.trans (hb2.mono hW.size)⟩
 · have hsz:v.size≤281474976710656:=zE (elemVar_sz h1) (by decide)
   have hsz2:elem.size≤281474976710656:=zE (elem_sz h2) (by decide);have HC:=hJ (h1 ▸ kCA v hsz (w.alloc (.cells #[.int .i64 3,.string v,.int .i64 0,.slice a 0 c,.string row.row,.slice a2 0 c2,.string elem] 42)));have h2:((elem.toList==[105,110,116]) || ((elem.toList==[98,111,111,108]) || kAQ elem))=true:=h2;clear h1 HL HH;by_cases q1:(elem.toList==[105,110,116])=true
   · clear h2
     go_enter func89,ntmps89
     go_wp2_with fail
     refine (HC.out).mono ?_;rintro e w1 ⟨rfl,hb⟩;have y6:=kAE xa6 _ hb;have hW:=B0.out.trans (hb.mono B0.out.size);clear xa0 xa1 xa2 xa3 xa4 xa5 xa6
     go_wp2_with fail
     go_ret;exact ⟨rfl,hW⟩
   have q1:(elem.toList==[105,110,116])=false:=by simpa using q1
   by_cases q2:(elem.toList==[98,111,111,108])=true
   · clear h2
     go_enter func89,ntmps89
     go_wp2_with fail
     refine (HC.out).mono ?_;rintro e w1 ⟨rfl,hb⟩;have y6:=kAE xa6 _ hb;have hW:=B0.out.trans (hb.mono B0.out.size);clear xa0 xa1 xa2 xa3 xa4 xa5 xa6
     go_wp2_with fail
     go_ret;exact ⟨rfl,hW⟩
   have q2:(elem.toList==[98,111,111,108])=false:=by simpa using q2
   have q3:kAQ elem=true:=by rw [q1,q2] at h2;exact h2
   have HC2:=hJ (fun w=>q3 ▸ kCA elem hsz2 w);clear h2 q3;go_enter func89,ntmps89
   go_wp2_with fail
   refine (HC.out).mono ?_;rintro e w1 ⟨rfl,hb⟩;have y6:=kAE xa6 _ hb;have hW:=B0.out.trans (hb.mono B0.out.size);clear xa0 xa1 xa2 xa3 xa4 xa5 xa6
   go_wp2_with fail
   refine (HC2.out _).mono ?_;rintro e w2 ⟨rfl,hb2⟩
   go_wp2_with fail
   go_ret;exact ⟨rfl,hW.trans (hb2.mono hW.size)⟩
theorem ref11_validBind {S:Blk} {x:Bnd} {cs:List Value} {w:World} (h:RBnd.rd S w cs x) (hv:kCV x=true) :
 Calls Tryz.prog 140 #[.agg cs.toArray] w fun e w'=>e= .returned (.bool true)∧Below w.heap.size w w':=by
 obtain ⟨t,d,rfl,⟨a,c,rfl,ht⟩,⟨a2,c2,rfl,hd⟩⟩:=h;have hcs:=bnd_cases hv
 have HL:Hid (kAB x.dim=true→∀ W,Below w.heap.size w W→Calls Tryz.prog 80 #[.agg #[.int .i64 x.dim.const,.slice a x.dim.terms.length c]] W fun e w'=>e= .returned (.bool true)∧Below W.heap.size W w') :=
  hJ (fun q W hW=>q ▸ ref04_Valid (S:=S) x.dim a _ c W (ht.below hW) (kE0 q))
 have HH:Hid (kAK x.row=true→∀ W,Below w.heap.size w W→Calls Tryz.prog 137 #[.agg #[.string x.row.row,.slice a2 x.row.dims.length c2]] W fun e w'=>e= .returned (.bool true)∧Below W.heap.size W w') :=
  hJ (fun q W hW=>q ▸ kF5 (S:=S) (s:=x.row) (cs:=[.string x.row.row,.slice a2 x.row.dims.length c2]) ⟨_,rfl,a2,c2,rfl,hd.below hW⟩ (shp_sz q))
 have HZ:Hid (x.dim.const=0→x.dim.terms.length=0→∀ W,Below w.heap.size w W→Calls Tryz.prog 213 #[.agg #[.int .i64 x.dim.const,.slice a x.dim.terms.length c]] W fun e w'=>e= .returned (.bool true)∧Below W.heap.size W w') :=
  hJ (fun q1 q2 W hW=>by
   have:=ref11_zero (x:=x.dim) (S:=S) (w:=W) (cs:=[.int .i64 x.dim.const,.slice a x.dim.terms.length c]) ⟨_,rfl,a,c,rfl,ht.below hW⟩;have e:zeroL x.dim=true:=by unfold zeroL;rw [q1,q2];rfl
   rwa [e] at this)
 have hm1:=ht.small;have hm2:=hd.small;clear ht hd hv;obtain ⟨kind,v,dim,row,elem⟩:=x;simp only at *;generalize dim.terms.length=n at *;generalize row.dims.length=m at *;generalize dim.const=dc at *;obtain ⟨B0,ya,hW0⟩:=box1 w 42 [.int .i64 kind,.string v,.int .i64 dc,.slice a n c,.string row.row,.slice a2 m c2,.string elem];have xa0:=box0 ya 0 _ rfl;have xa1:=box0 ya 1 _ rfl;have xa2:=box0 ya 2 _ rfl;have xa3:=box0 ya 3 _ rfl;have xa4:=box0 ya 4 _ rfl;have xa5:=box0 ya 5 _ rfl;have xa6:=box0 ya 6 _ rfl;clear ya;rcases hcs with ⟨rfl,h1,h2,h3,rfl,h5⟩ | ⟨rfl,h1,h2,rfl,rfl,h5⟩ | ⟨rfl,h1,h2,rfl,rfl,h5,rfl⟩
 · have hsz:v.size≤281474976710656:=zE (kC7 h1) (by decide)
   have HC:=hJ (fun w=>h1 ▸ kCO v w hsz);have HL:=hJ (HL.out h2 _ B0.out);clear h1 h2 HH HZ;go_enter func140,ntmps140
   go_wp2_with fail
   refine (HC.out _).mono ?_;rintro e _ ⟨rfl,rfl⟩
   go_wp2_with fail
   refine (HL.out).mono ?_;rintro e w2 ⟨rfl,hb2⟩;have z6:=kAE xa6 _ hb2
   go_wp2_with fail
   go_ret;exact ⟨rfl,B0.out.trans (hb2.mono B0.out.size)⟩
 · have hsz:v.size≤281474976710656:=zE (kC7 h1) (by decide)
   have HC:=hJ (fun w=>h1 ▸ kCO v w hsz);have HH:=hJ (HH.out h2 _ B0.out);have HZ2:=hJ (HZ.out rfl rfl);clear h1 h2 HL HZ;cases h6:row.row.toList.isEmpty
   all_goals cases h7:decide (0<(m:Int))
   all_goals
    go_enter func140,ntmps140
    go_wp2_with fail
    refine (HC.out _).mono ?_;rintro e _ ⟨rfl,rfl⟩
    go_wp2_with fail
    refine (HH.out).mono ?_;rintro e w2 ⟨rfl,hb2⟩;have y2:=kAE xa2 _ hb2;have y3:=kAE xa3 _ hb2;have y6:=kAE xa6 _ hb2;have hW:=B0.out.trans (hb2.mono B0.out.size);clear xa0 xa1 xa2 xa3 xa4 xa5 xa6
    go_wp2_with fail
    refine (HZ2.out _ hW).mono ?_;rintro e w3 ⟨rfl,hb3⟩;have z6:=kAE y6 _ hb3
    go_wp2_with fail
    go_ret;exact ⟨rfl,hW.trans (hb3.mono hW.size)⟩
 · have hsz:v.size≤281474976710656:=zE (elemVar_sz h1) (by decide)
   have hsz2:elem.size≤281474976710656:=zE (elem_sz h2) (by decide);have HC:=hJ (fun w=>h1 ▸ kD9 v hsz w);have HC2:=hJ (fun w=>h2 ▸ ref11_Elem elem hsz2 w);have HZ2:=hJ (HZ.out rfl rfl _ B0.out);clear h1 h2 HL HH HZ;go_enter func140,ntmps140
   go_wp2_with fail
   refine (HC.out _).mono ?_;rintro e _ ⟨rfl,rfl⟩
   go_wp2_with fail
   refine (HC2.out _).mono ?_;rintro e _ ⟨rfl,rfl⟩
   go_wp2_with fail
   refine (HZ2.out).mono ?_;rintro e w3 ⟨rfl,hb3⟩
   go_wp2_with fail
   go_ret;exact ⟨rfl,B0.out.trans (hb3.mono B0.out.size)⟩
theorem binds_at {l:List Bnd} (h:kA8 l=true) {k:Nat} (hk:k<l.length):kCV (l.getD k default)=true∧kAW (l.take k) (l.getD k default).kind (l.getD k default).v<0:=by
 have:=(List.all_eq_true.1 h) k (List.mem_range.2 hk);unfold bndOk at this;rw [zA] at this;exact ⟨this.1,of_decide_eq_true this.2⟩
theorem kD3 {S:Blk} (l:List Bnd) (a:Option Addr) (n c:Nat) (w:World) (h:Sl RBnd S w a n c l) (hv:kA8 l=true) :
 Calls Tryz.prog 81 #[.slice a n c] w fun e w'=>e= .returned (.bool true)∧Below w.heap.size w w':=by
 have H:=hJ h;have HV:=hJ hv;have hn:=h.small;have hcap:=h.cap;clear h hv;go_enter func81,ntmps81
 go_wp2_with fail
 go_loopw [3] (fun i wr=>∃ k:Nat,k≤n∧i= .int .i64 k∧Below w.heap.size w wr) (fun i _=>n - (intOf i).toNat)
 case atStart=>exact ⟨0,Nat.zero_le _,rfl,zB _ _⟩
 case round =>
  obtain ⟨k,hk,rfl,hB⟩:=hrel;by_cases hlt:k<n
  · obtain ⟨b,off,rfl,hbW,_⟩:=H.out.form k hlt
    have HR:=hJ (H.out.below hB);obtain ⟨t,d,hr,hd,c0,c1,c2,c3,c4,c5,c6⟩:=HR.out.bnd k hlt;have HX:=hJ (binds_at HV.out (k:=k) (by rw [H.out.len];exact hlt));have HC1:=hJ (fun t:Later wr=>ref11_validBind (RBnd.below hr t.b) HX.out.1);have HC2:=hJ (fun t:Later wr=>kEF (l.take k) _ k c t.w ((HR.out.take k hk).below t.b) (l.getD k default).kind (l.getD k default).v);have hq:decide (0≤kAW (l.take k) (l.getD k default).kind (l.getD k default).v)=false:=decide_eq_false (by have:=HX.out.2;omega);have c0:=Later.cell c0;have c1:=Later.cell c1;have c2:=Later.cell c2;have c3:=Later.cell c3;have c4:=Later.cell c4;have c5:=Later.cell c5;have c6:=Later.cell c6;clear hr hd;generalize kAW (l.take k) (l.getD k default).kind (l.getD k default).v=q at *;generalize l.getD k default=x at *
    go_wp2_with fail
    refine kAC (by kernel_rfl) (by kernel_rfl) ?_
    repeat (go_big_quiet_step (first | fail | exact Later.call (HC1.out _) | exact Later.same (HC2.out _)))
    refine wpQuiet_nil ?_;rintro _ ⟨t9,rfl⟩
    go_wp2_with fail
    go_roundw
    case rel=>exact ⟨k+1,by omega,by go_num,hB.trans (t9.b.mono hB.size)⟩
    case measure=>simp [intOf];omega
  · go_wp2_with fail
    go_ret;exact ⟨rfl,hB⟩
theorem kD2 {S:Blk} (l:List Bnd) (a:Option Addr) (n c:Nat) (w:World) (h:Sl RBnd S w a n c l) (hv:kA8 l=true) (E:Env w) :
 Calls Tryz.prog 38 #[.slice a n c] w fun e w'=>e= .returned (.bool true)∧Below w.heap.size w w':=by
 have H:=hJ h;have HV:=hJ hv;have EE:=hJ E;have hn:=h.small;have hcap:=h.cap;clear h hv E;go_enter func38,ntmps38
 go_wp2_with fail
 go_loopw [7] (fun i wr=>∃ k:Nat,k≤n∧i= .int .i64 k∧Below w.heap.size w wr) (fun i _=>n - (intOf i).toNat)
 case atStart=>exact ⟨0,Nat.zero_le _,rfl,zB _ _⟩
 case round =>
  obtain ⟨k,hk,rfl,hB⟩:=hrel;by_cases hlt:k<n
  · obtain ⟨b,off,rfl,hbW,_⟩:=H.out.form k hlt
    have HR:=hJ (H.out.below hB);obtain ⟨t,d,hr,⟨⟨ta,tc,rfl,htt⟩,⟨da,dc,rfl,hdd⟩⟩,c0,c1,c2,c3,c4,c5,c6⟩:=HR.out.bnd k hlt;have HX:=hJ (binds_at HV.out (k:=k) (by rw [H.out.len];exact hlt));have hq:decide (0≤kAW (l.take k) (l.getD k default).kind (l.getD k default).v)=false:=decide_eq_false (by have:=HX.out.2;omega);have HT:=hJ (HR.out.take k hk);have HRX:=hJ hr;have HC2:=hJ (fun (W:World) (hW:Below wr.heap.size wr W)=>kHE (l.take k) _ k c W (HT.out.below hW) (l.getD k default).kind (l.getD k default).v);have HC1:=hJ (fun (W:World) (hW:Below wr.heap.size wr W)=>shape_bound (RBnd.below HRX.out hW) HX.out.1 (EE.out.below (hB.trans (hW.mono hB.size))));clear hr htt hdd;generalize kAW (l.take k) (l.getD k default).kind (l.getD k default).v=q at *;generalize l.getD k default=x at *
    go_wp2_with fail
    have hA:Below wr.heap.size wr (wr.alloc (.cells #[.int .i64 x.kind,.string x.v,.int .i64 x.dim.const,.slice ta x.dim.terms.length tc,.string x.row.row,.slice da x.row.dims.length dc,.string x.elem] 42)):=(zB _ _).alloc (zR _) _;have e0:(wr.alloc (.cells #[.int .i64 x.kind,.string x.v,.int .i64 x.dim.const,.slice ta x.dim.terms.length tc,.string x.row.row,.slice da x.row.dims.length dc,.string x.elem] 42)).cell? ⟨wr.heap.size,0,none⟩=some (.int .i64 x.kind):=by simp [go_sem]
    have e1:(wr.alloc (.cells #[.int .i64 x.kind,.string x.v,.int .i64 x.dim.const,.slice ta x.dim.terms.length tc,.string x.row.row,.slice da x.row.dims.length dc,.string x.elem] 42)).cell? ⟨wr.heap.size,1,none⟩=some (.string x.v):=by simp [go_sem]
    have e2:(wr.alloc (.cells #[.int .i64 x.kind,.string x.v,.int .i64 x.dim.const,.slice ta x.dim.terms.length tc,.string x.row.row,.slice da x.row.dims.length dc,.string x.elem] 42)).cell? ⟨wr.heap.size,2,none⟩=some (.int .i64 x.dim.const):=by simp [go_sem]
    have e3:(wr.alloc (.cells #[.int .i64 x.kind,.string x.v,.int .i64 x.dim.const,.slice ta x.dim.terms.length tc,.string x.row.row,.slice da x.row.dims.length dc,.string x.elem] 42)).cell? ⟨wr.heap.size,3,none⟩=some (.slice ta x.dim.terms.length tc):=by simp [go_sem]
    have e4:(wr.alloc (.cells #[.int .i64 x.kind,.string x.v,.int .i64 x.dim.const,.slice ta x.dim.terms.length tc,.string x.row.row,.slice da x.row.dims.length dc,.string x.elem] 42)).cell? ⟨wr.heap.size,4,none⟩=some (.string x.row.row):=by simp [go_sem]
    have e5:(wr.alloc (.cells #[.int .i64 x.kind,.string x.v,.int .i64 x.dim.const,.slice ta x.dim.terms.length tc,.string x.row.row,.slice da x.row.dims.length dc,.string x.elem] 42)).cell? ⟨wr.heap.size,5,none⟩=some (.slice da x.row.dims.length dc):=by simp [go_sem]
    have e6:(wr.alloc (.cells #[.int .i64 x.kind,.string x.v,.int .i64 x.dim.const,.slice ta x.dim.terms.length tc,.string x.row.row,.slice da x.row.dims.length dc,.string x.elem] 42)).cell? ⟨wr.heap.size,6,none⟩=some (.string x.elem):=by simp [go_sem]
    clear c0 c1 c2 c3 c4 c5 c6;have hws:wr.heap.size<(wr.alloc (.cells #[.int .i64 x.kind,.string x.v,.int .i64 x.dim.const,.slice ta x.dim.terms.length tc,.string x.row.row,.slice da x.row.dims.length dc,.string x.elem] 42)).heap.size:=by simp
    generalize (wr.alloc (.cells #[.int .i64 x.kind,.string x.v,.int .i64 x.dim.const,.slice ta x.dim.terms.length tc,.string x.row.row,.slice da x.row.dims.length dc,.string x.elem] 42))=w2 at *;have HC1:=hJ (fun t:Later w2=>HC1.out t.w (hA.trans (t.b.mono hA.size)));have HC2:=hJ (fun t:Later w2=>HC2.out t.w (hA.trans (t.b.mono hA.size)));have e0:=Later.cell e0;have e1:=Later.cell e1;have e2:=Later.cell e2;have e3:=Later.cell e3;have e4:=Later.cell e4;have e5:=Later.cell e5;have e6:=Later.cell e6;have hBA:=hJ (hB.trans (hA.mono hB.size));clear hA
    go_wp2_with fail
    refine kAC (by kernel_rfl) (by kernel_rfl) ?_
    repeat (go_big_quiet_step (first | fail | exact Later.call (HC1.out _) | exact Later.call (HC2.out _)))
    refine wpQuiet_nil ?_;rintro _ ⟨t9,rfl⟩
    go_wp2_with fail
    go_roundw
    case rel=>exact ⟨k+1,by omega,by go_num,hBA.out.trans (t9.b.mono hBA.out.size)⟩
    case measure=>simp [intOf];omega
  · go_wp2_with fail
    go_ret;exact ⟨rfl,hB⟩
theorem eqn_valid_1 {S:Blk} {x:Lin} {cs:List Value} {w:World} (h:RLin.rd S w cs x) (hz:szL x) (E:Env w) :
 Calls Tryz.prog 239 #[.agg cs.toArray] w fun e w'=>e= .returned (.bool (!kAB x))∧Below w.heap.size w w':=by
 have B0:Hid (Below w.heap.size w (w.alloc (.cells cs.toArray 40))):=hJ ((zB _ _).alloc (zR _) _);have HC:=hJ (kBX (RLin.below h B0.out) hz (E.below B0.out));obtain ⟨t,rfl,ht⟩:=h;clear ht E;go_enter func239,ntmps239
 go_wp2_with fail
 refine (HC.out).mono ?_;rintro e w1 ⟨rfl,hb⟩
 go_wp2_with fail
 go_ret;exact ⟨rfl,B0.out.trans (hb.mono B0.out.size)⟩
theorem eqn_valid {S:Blk} (l:List Lin) (a:Option Addr) (n c:Nat) (w:World) (h:Sl RLin S w a n c l) (hz:∀ x ∈ l,szL x) (E:Env w) :
 Calls Tryz.prog 171 #[.slice a n c] w fun e w'=>e= .returned (.bool (!l.any (fun x=> !kAB x)))∧Below w.heap.size w w':=by
 have HC:=hJ (kG8 l a n c w h 239 #[] (kBJ func239 rfl rfl) (fun x=> !kAB x) (fun W x cs hb hx hr=>eqn_valid_1 hr (hz x hx) (E.below hb)));clear h E hz;generalize l.any (fun x=> !kAB x)=q at *;go_enter func171,ntmps171
 go_wp2_with fail
 refine (HC.out).mono ?_;rintro e w1 ⟨rfl,hb⟩
 go_wp2_with fail
 go_ret;exact ⟨rfl,hb⟩
theorem eqn_fresh (s:Str) (hs:bt s 0≠95) (w:World) :
 Calls Tryz.prog 240 #[.string s] w fun e w'=>e= .returned (.int .i64 0)∧w=w':=by
 have HP:=hJ (pre_no s hs w);clear hs;go_enter func240,ntmps240
 go_wp2_with fail
 refine HP.out.mono ?_;rintro e w1 ⟨rfl,rfl⟩
 go_wp2_with fail
 go_ret;exact ⟨rfl,rfl⟩
theorem eqn_zero {x:Lin} {S:Blk} {cs:List Value} {w:World} (h:RLin.rd S w cs x) :
 Calls Tryz.prog 241 #[.agg cs.toArray] w fun e w'=>e= .returned (.bool (decide (x.terms.length=0) && decide (x.const=0)))∧Below w.heap.size w w':=by
 obtain ⟨t,rfl,a,c,rfl,hs⟩:=h;have hm:=hs.small;clear hs;generalize x.terms.length=n at *;obtain ⟨B0,ya,hW0⟩:=box1 w 40 [.int .i64 x.const,.slice a n c];have xa0:=box0 ya 0 _ rfl;have xa1:=box0 ya 1 _ rfl;clear ya;by_cases h0:n=0
 · subst h0
   go_enter func241,ntmps241
   go_wp2_with fail
   go_ret;exact ⟨by congr 2,B0.out⟩
 · have q:((n:Int)==0)=false:=by simpa using h0
   have HF:Hid (decide (n=0)=false):=hJ (decide_eq_false h0);clear h0;go_enter func241,ntmps241
   go_wp2_with fail
   go_ret;exact ⟨by rw [HF.out];rfl,B0.out⟩
theorem eqn_small (n:Int) (h0: -1099511627776≤n) (h1:n≤1099511627776) (w:World) :
 Calls Tryz.prog 299 #[.int .i64 n,.int .i64 0] w fun e w'=>e= .returned (.bool true)∧w=w':=by
 go_enter func299,ntmps299
 go_wp2_with fail
 go_ret;exact ⟨rfl,rfl⟩
theorem int_in (a:Option Addr) (b c:Nat) (w:World) (h0:a=some ⟨b,0,none⟩) (x0:w.cell? ⟨b,0,none⟩=some (.int .i64 1)) (x1:w.cell? ⟨b,1,none⟩=some (.int .i64 1)) :
 Calls Tryz.prog 305 #[.slice a 2 c] w fun e w'=>e= .returned (.bool true)∧w=w':=by
 subst h0;go_enter func305,ntmps305
 go_wp2_with fail
 refine wp_loop_rounds 3 ?_;rw [rounds_succ]
 go_wp2_with fail
 rw [rounds_succ]
 go_wp2_with fail
 rw [rounds_succ]
 go_wp2_with fail
 go_ret;exact ⟨rfl,rfl⟩
theorem int_abs1 (w:World):Calls Tryz.prog 307 #[.int .i64 1] w fun e w'=>e= .returned (.int .i64 1)∧w=w':=by
 go_enter func307,ntmps307
 go_wp2_with fail
 go_ret;exact ⟨rfl,rfl⟩
theorem int_Mul1 (w:World):Calls Tryz.prog 251 #[.int .i64 1,.int .i64 1] w fun e w'=>e= .returned (.tuple #[.int .i64 1,.int .i64 0])∧Below w.heap.size w w':=by
 have HI:Hid (∀ W:World,W.cell? ⟨w.heap.size,0,none⟩=some (.int .i64 1)→W.cell? ⟨w.heap.size,1,none⟩=some (.int .i64 1)→Calls Tryz.prog 305 #[.slice (some ⟨w.heap.size,0,none⟩) 2 2] W fun e w'=>e= .returned (.bool true)∧W=w'):=hJ (fun W x0 x1=>int_in _ _ 2 W rfl x0 x1);have HM:Hid (∀ W,Calls Tryz.prog 306 #[.int .u64 1,.int .u64 1] W fun e w'=>e= .returned (.tuple #[.int .u64 0,.int .u64 1])∧W=w'):=hJ (fun W=>(Tryz.bits_Mul64 1 1 (by decide) (by decide) W).mono (fun e w' ⟨h1,h2⟩=>⟨h1,h2.symm⟩));go_enter func251,ntmps251
 go_wp2_with fail
 refine (HI.out _ (by simp [go_sem]) (by simp [go_sem])).mono ?_;rintro e w1 ⟨rfl,rfl⟩
 go_wp2_with fail
 refine (int_abs1 _).mono ?_;rintro e w1 ⟨rfl,rfl⟩
 go_wp2_with fail
 refine (int_abs1 _).mono ?_;rintro e w1 ⟨rfl,rfl⟩
 go_wp2_with fail
 refine (HM.out _).mono ?_;rintro e w1 ⟨rfl,rfl⟩
 go_wp2_with fail
 go_returns
 exact ⟨rfl,(zB _ _).alloc (zR _) _⟩
def Bx (w:World) (g:Nat) (E:TypeId) (cs:List Value):Prop:=w.heap[g]? =some (.cells cs.toArray E (0,0))
theorem Bx.cell {w:World} {g:Nat} {E:TypeId} {cs:List Value} (h:Bx w g E cs) (j:Nat) (u:Value) (hu:cs[j]? =some u):w.cell? ⟨g,j,none⟩=some u:=box0 h j u hu
theorem Bx.fz {w:World} {g:Nat} {E:TypeId} {cs:List Value} (h:Bx w g E cs) (j:Nat):w.frozen? ⟨g,j,none⟩=false:=by
 unfold World.frozen?;rw [show w.heap[g]? =_ from h];simp
theorem Bx.lt {w:World} {g:Nat} {E:TypeId} {cs:List Value} (h:Bx w g E cs):g<w.heap.size:=by
 rcases zF g w.heap.size with q | q
 · exact q
 · unfold Bx at h;rw [Array.getElem?_eq_none q] at h;cases h
theorem Bx.fresh (w:World) (E:TypeId) (cs:List Value):Bx (w.alloc (.cells cs.toArray E)) w.heap.size E cs:=by
 show (w.heap.push _)[w.heap.size]? =_
 simp
theorem Bx.alloc {w:World} {g:Nat} {E:TypeId} {cs:List Value} (h:Bx w g E cs) (o:Obj):Bx (w.alloc o) g E cs:=by
 have:=h.lt
 show (w.heap.push o)[g]? =_
 rw [Array.getElem?_push,if_neg (by omega)];exact h
theorem Bx.drew {w:World} {g:Nat} {E:TypeId} {cs:List Value} (h:Bx w g E cs):Bx w.drew g E cs:=h
theorem Bx.below {w w':World} {g B:Nat} {E:TypeId} {cs:List Value} (h:Bx w g E cs) (hb:Below B w w') (hg:g<B):Bx w' g E cs:=(hb.block g hg).trans h
theorem Bx.set {w:World} {g:Nat} {E:TypeId} {cs:List Value} (h:Bx w g E cs) (j:Nat) (u:Value):Bx (w.setCell ⟨g,j,none⟩ u) g E (cs.set j u):=by
 have hl:=h.lt;unfold Bx World.setCell at *
 show (w.heap.modify g _)[g]? =_
 rw [Array.getElem?_modify,if_pos rfl,h];simp
theorem kAA {w:World} {g:Nat} {a:Addr} {u:Value} (hne:a.block≠g):(w.setCell a u).heap[g]? =w.heap[g]? :=by
 unfold World.setCell
 show (w.heap.modify a.block _)[g]? =_
 rw [Array.getElem?_modify,if_neg hne]
theorem Bx.other {w:World} {g:Nat} {E:TypeId} {cs:List Value} (h:Bx w g E cs) {a:Addr} {u:Value} (hne:a.block≠g):Bx (w.setCell a u) g E cs:=(kAA hne).trans h
structure Kb (g:Nat) (w w':World):Prop where
 os:w'.os=w.os
 tape:w'.tape=w.tape
 output:w'.output=w.output
 size:w.heap.size≤w'.heap.size
 block:∀ q,q<w.heap.size→q≠g→w'.heap[q]? =w.heap[q]?
theorem Kb.refl (g:Nat) (w:World):Kb g w w:=⟨rfl,rfl,rfl,zR _,fun _ _ _=>rfl⟩
theorem Kb.later {g:Nat} {a b c:World} (h:Kb g a b) (k:Below b.heap.size b c):Kb g a c:=⟨k.os.trans h.os,k.tape.trans h.tape,k.output.trans h.output,zE h.size k.size,fun q hq hne=>(k.block q (Nat.lt_of_lt_of_le hq h.size)).trans (h.block q hq hne)⟩
theorem Kb.trans {g:Nat} {a b c:World} (h:Kb g a b) (k:Kb g b c):Kb g a c:=⟨k.os.trans h.os,k.tape.trans h.tape,k.output.trans h.output,zE h.size k.size,fun q hq hne=>(k.block q (Nat.lt_of_lt_of_le hq h.size) hne).trans (h.block q hq hne)⟩
theorem Kb.set {g:Nat} {a b:World} (h:Kb g a b) (o:Nat) (u:Value):Kb g a (b.setCell ⟨g,o,none⟩ u):=⟨h.os,h.tape,h.output,by simpa using h.size,fun q hq hne=>(kAA (fun e=>hne e.symm)).trans (h.block q hq hne)⟩
theorem Kb.drew {g:Nat} {a b:World} (h:Kb g a b):Kb g a b.drew:=⟨h.os,h.tape,h.output,h.size,h.block⟩
theorem Kb.below {g B:Nat} {w w':World} (h:Kb g w w') (hg:B≤g) (hB:B≤w.heap.size):Below B w w':=⟨h.os,h.tape,h.output,h.size,fun k hk=>h.block k (by omega) (by omega)⟩
theorem Bx.kb {w w':World} {g p:Nat} {E:TypeId} {cs:List Value} (h:Bx w g E cs) (hk:Kb p w w') (hne:g≠p):Bx w' g E cs:=(hk.block g h.lt hne).trans h
theorem Env.keep {w w':World} {B:Nat} (h:Env w) (hb:Below B w w') (h8:8≤B):Env w' :=
 have hg:=h.big
 ⟨h.sx.imp fun _ ⟨p,e⟩=>⟨p,var?_below hb (g:=4) (by kernel_rfl) (by omega) e⟩,h.rg.imp fun _ ⟨p,e⟩=>⟨p,var?_below hb (g:=5) (by kernel_rfl) (by omega) e⟩,
   var?_below hb (g:=1) (by kernel_rfl) (by omega) h.ten,zE hg hb.size⟩
theorem Env.kb {w w':World} {p:Nat} (h:Env w) (hk:Kb p w w') (hp:8≤p):Env w':=h.keep (hk.below hp h.big) (zR _)
theorem coefAt_drop {l:List Coef} {k:Nat} (h:k<l.length) (s:Str):kAN (l.drop k) s=if seq (l.getD k default).v s then (l.getD k default).c else kAN (l.drop (k+1)) s:=by
 rw [List.drop_eq_getElem_cons h,show l.getD k default=l[k] from by rw [zD,zG h];rfl];rfl
theorem linear_Coef {S:Blk} {x:Lin} {cs:List Value} {w:World} (h:RLin.rd S w cs x) (s:Str) :
 Calls Tryz.prog 174 #[.agg cs.toArray,.string s] w fun e w'=>e= .returned (.int .i64 (kAN x.terms s))∧Below w.heap.size w w':=by
 obtain ⟨t,rfl,a,c,rfl,hs⟩:=h;have hm:=hs.small;generalize hxl:x.terms.length=n at *;have HXL:=hJ hxl;clear hxl;obtain ⟨B0,ya,hW0⟩:=box1 w 40 [.int .i64 x.const,.slice a n c];have xa0:=box0 ya 0 _ rfl;have xa1:=box0 ya 1 _ rfl;clear ya;have H:=hJ (hs.below B0.out);clear hs;go_enter func174,ntmps174
 go_wp2_with fail
 generalize (w.alloc (.cells #[.int .i64 x.const,.slice a n c] 40))=W at *
 go_loopw [10] (fun i wr=>∃ k:Nat,k≤n∧i= .int .i64 k∧Hid (kAN x.terms s=kAN (x.terms.drop k) s)∧Hid (Below W.heap.size W wr)) (fun i _=>n - (intOf i).toNat)
 case atStart=>exact ⟨0,Nat.zero_le _,rfl,hJ (by rw [List.drop_zero]),hJ (zB _ _)⟩
 case round =>
  obtain ⟨k,hk,rfl,HT,HB⟩:=hrel;by_cases hlt:k<n
  · obtain ⟨b,off,rfl,hbW,_⟩:=H.out.form k hlt
    have hkl:k<x.terms.length:=by rw [HXL.out];exact hlt
    obtain ⟨c0,c1⟩:=(H.out.below HB.out).coef k hlt;have HD:=hJ (coefAt_drop hkl s);have HQ:Hid (seq (x.terms.getD k default).v s=((x.terms.getD k default).v.toList==s.toList)):=hJ rfl;clear hkl;generalize x.terms.getD k default=t at *;cases hq:(t.v.toList==s.toList) with
    | true =>
      have HF:Hid (kAN x.terms s=t.c):=hJ (by rw [HT.out,HD.out,HQ.out,hq,if_pos rfl])
      go_wp2_with fail
      go_ret;exact ⟨by rw [HF.out];rfl,B0.out.trans ((HB.out.alloc HB.out.size _).mono B0.out.size)⟩
    | false =>
      have HF:Hid (kAN x.terms s=kAN (x.terms.drop (k+1)) s):=hJ (by rw [HT.out,HD.out,HQ.out,hq,if_neg (by decide)])
      go_wp2_with fail
      go_roundw
      case rel=>exact ⟨k+1,by omega,by go_num,HF,hJ (HB.out.alloc HB.out.size _)⟩
      case measure=>simp [intOf];omega
  · have HF:Hid (kAN x.terms s=0):=hJ (by rw [HT.out,List.drop_of_length_le (by rw [HXL.out];omega)];rfl)
    go_wp2_with fail
    go_ret;exact ⟨by rw [HF.out];rfl,B0.out.trans (HB.out.mono B0.out.size)⟩
theorem linear_Content1 {S:Blk} {k:Int} {v:Str} {cs:List Value} {w:World} (h:RLin.rd S w cs ⟨k,[⟨v,1⟩]⟩) (hv:kAB ⟨k,[⟨v,1⟩]⟩=true) (E:Env w) :
 Calls Tryz.prog 250 #[.agg cs.toArray] w fun e w'=>e= .returned (.int .i64 1)∧Below w.heap.size w w':=by
 have B0:Hid (Below w.heap.size w (w.alloc (.cells cs.toArray 40))):=hJ ((zB _ _).alloc (zR _) _);have HX0:=hJ (Bx.fresh w 40 cs);have HC:=hJ (kBX (RLin.below h B0.out) (kE0 hv) (E.below B0.out));rw [hv] at HC;obtain ⟨t,rfl,a,c,rfl,hs⟩:=h;have H:=hJ hs;obtain ⟨b,off,rfl,hbW,_⟩:=hs.form 0 (Nat.lt_succ_self 0);clear hs hv E;go_enter func250,ntmps250
 go_wp2_with fail
 refine (HC.out).mono ?_;rintro e w1 ⟨rfl,hb⟩;have HB:=hJ (B0.out.trans (hb.mono B0.out.size));have HX1:=hJ (HX0.out.below hb HX0.out.lt);have x0:=HX1.out.cell 0 _ rfl;have x1:=HX1.out.cell 1 _ rfl;obtain ⟨c0,c1⟩:=(H.out.below HB.out).coef 0 (Nat.lt_succ_self 0);have c0:w1.cell? ⟨b,off,none⟩=some (.string v):=c0;have c1:w1.cell? ⟨b,off+1,none⟩=some (.int .i64 1):=c1;clear hb HX0 HC
 go_wp2_with fail
 refine wp_loop_rounds 2 ?_;rw [rounds_succ]
 go_wp2_with fail
 have b0:(w1.alloc (.cells #[.string v,.int .i64 1] 44)).cell? ⟨w1.heap.size,0,none⟩=some (.string v):=by simp [go_sem]
 have b1:(w1.alloc (.cells #[.string v,.int .i64 1] 44)).cell? ⟨w1.heap.size,1,none⟩=some (.int .i64 1):=by simp [go_sem]
 have HB2:Hid (Below w.heap.size w (w1.alloc (.cells #[.string v,.int .i64 1] 44))):=hJ (HB.out.alloc HB.out.size _);generalize (w1.alloc (.cells #[.string v,.int .i64 1] 44))=w2 at *
 go_region
 go_wp2_with fail
 refine wp_loop_rounds 2 ?_;rw [rounds_succ]
 go_wp2_with fail
 go_region
 go_wp2_with fail
 rw [rounds_succ]
 go_wp2_with fail
 rw [rounds_succ]
 go_wp2_with fail
 go_ret;exact ⟨rfl,HB2.out.drew.drew⟩
theorem min_one {S:Blk} {w:World} {a:Option Addr} {c:Nat} {s:Str} {k:Int} (h:Sl kA7 S w a 1 c [⟨s,k⟩]) (fv:Value) :
 Calls Tryz.prog 308 #[.slice a 1 c,fv] w fun e w'=>e= .returned (.agg #[.string s,.int .i64 k])∧Below w.heap.size w w':=by
 obtain ⟨b,off,rfl,hbW,_⟩:=h.form 0 (Nat.lt_succ_self 0);obtain ⟨c0,c1⟩:=h.coef 0 (Nat.lt_succ_self 0);have c0:w.cell? ⟨b,off,none⟩=some (.string s):=c0;have c1:w.cell? ⟨b,off+1,none⟩=some (.int .i64 k):=c1;clear h;go_enter func308,ntmps308
 go_wp2_with fail
 refine wp_loop_rounds 1 ?_;rw [rounds_succ]
 go_wp2_with fail
 refine bodyPost_ret (v:=.agg #[.string s,.int .i64 k]) (by simp [results,results308,go_sem]) rfl ?_;exact ⟨rfl,((zB _ _).alloc (zR _) _).alloc (by simp) _⟩
theorem eqn_pick {S:Blk} {w:World} {a:Option Addr} {c:Nat} {s:Str} {k q:Int} (h:Sl kA7 S w a 1 c [⟨s,k⟩]) :
 Calls Tryz.prog 300 #[.agg #[.int .i64 q,.slice a 1 c]] w fun e w'=>e= .returned (.agg #[.string s,.int .i64 k])∧Below w.heap.size w w':=by
 obtain ⟨W,hW⟩:∃ W,(w.alloc (.cells #[.int .i64 q,.slice a 1 c] 40)).alloc (.cells #[.string ⟨#[]⟩,.int .i64 0] 44)=W:=⟨_,rfl⟩
 have HB:Hid (Below w.heap.size w W):=hJ (by rw [← hW];exact ((zB _ _).alloc (zR _) _).alloc (by simp) _);have HX:Hid (Bx W w.heap.size 40 [.int .i64 q,.slice a 1 c]):=hJ (by rw [← hW];exact (Bx.fresh w _ _).alloc _);have HY:Hid (Bx W (w.heap.size+1) 44 [.string ⟨#[]⟩,.int .i64 0]):=hJ (by rw [← hW];have:=Bx.fresh (w.alloc (.cells #[.int .i64 q,.slice a 1 c] 40)) 44 [.string ⟨#[]⟩,.int .i64 0];simpa using this);have HM:=hJ (min_one (h.below HB.out) (.func (.func 341) #[] #[]));clear h;have x1:=HX.out.cell 1 _ rfl;go_enter func300,ntmps300
 go_wp2_with fail
 refine (HM.out).mono ?_;rintro e w1 ⟨rfl,hb⟩;have HY1:=hJ (HY.out.below hb HY.out.lt);have u0:=HY1.out.cell 0 _ rfl;have u1:=HY1.out.cell 1 _ rfl;have f0:=HY1.out.fz 0;have f1:=HY1.out.fz 1;have HY2:=hJ ((HY1.out.set 0 (.string s)).set 1 (.int .i64 k));have s0:=HY2.out.cell 0 _ rfl;have s1:=HY2.out.cell 1 _ rfl
 go_wp2_with fail
 refine bodyPost_ret (v:=.agg #[.string s,.int .i64 k]) (by simp [results,results300,go_sem,s0,s1]) rfl ?_;exact ⟨rfl,((HB.out.trans (hb.mono HB.out.size)).setCell (Nat.le_succ _) _).setCell (Nat.le_succ _) _⟩
def runB (s:Str) (k:Nat):Bool:=kAT (bt s k) || kBA (bt s k)
def reservedL:List (List UInt8):=[[98,111,111,108],[100,101,102],[101,120,112,111,114,116],[102,97,108,115,101],[102,111,108,100],[105,109,112,111,114,116],[105,110],[105,110,116],[108,101,116],[109,111,100,117,108,101],[115,99,97,110],[115,105,122,101],[116,114,117,101],[119,104,101,114,101]]
def reservedB (s:Str):Bool:=reservedL.any (fun r=>s.toList==r)
def isNameB (s:Str):Bool:=decide (1≤s.size∧s.size≤30) && (kBA (bt s 0) && ((List.range s.size).all (runB s) && !reservedB s))
def Uni (l:List Ent):Prop:=l.Pairwise fun a b=>a.name≠b.name
theorem Uni.perm {l l2:List Ent} (h:l.Perm l2) (u:Uni l):Uni l2:=h.pairwise u (fun hab=>Ne.symm hab)
theorem Bx.kp {w w':World} {v v':Value} {g:Nat} {E:TypeId} {cs:List Value} (h:Bx w g E cs) (hk:Kp v v' w w') (hne:v.ownBlock≠some g):Bx w' g E cs:=(hk.block g h.lt hne).trans h
theorem Own.set {α :Type} {R:Rep α} {E:TypeId} {S:Blk} {w:World} {base:Nat} {v:Value} {l:List α} (h:Own R E S w base v l) {a:Addr} (u:Value) (hS:∀ k,S k→k≠a.block) (hb:a.block<base):Own R E S (w.setCell a u) base v l :=
 h.frame (fun k hk q=>kAA (fun e=>by
  rcases q with q | q
  · exact hS k q e.symm
  · have:=h.base_le k q;omega)) (by simp)
theorem Own.ne {α :Type} {R:Rep α} {E:TypeId} {S:Blk} {w:World} {base:Nat} {v:Value} {l:List α} (h:Own R E S w base v l) {g:Nat} (hg:g<base):v.ownBlock≠some g:=fun e=>by have:=h.base_le g e;omega
theorem Own.shape {α :Type} {R:Rep α} {E:TypeId} {S:Blk} {w:World} {base:Nat} {v:Value} {l:List α} (h:Own R E S w base v l):∃ a m c,v= .slice a m c:=by
 obtain ⟨a,c,rfl,_⟩:=h.sl;exact ⟨a,_,c,rfl⟩
theorem Own.open_ {α :Type} {R:Rep α} {E:TypeId} {S:Blk} {w:World} {base:Nat} {v:Value} {l:List α} (h:Own R E S w base v l) (hl:0<l.length):∃ g c,v= .slice (some ⟨g,0,none⟩) l.length c∧base≤g∧g<w.heap.size∧Sl R (fun k=>S k∨base≤k) w (some ⟨g,0,none⟩) l.length c l∧∀ j,w.frozen? ⟨g,j,none⟩=false:=by
 obtain ⟨a,c,rfl,hs⟩:=h.sl;obtain ⟨css,hcl,hrow,hel⟩:=h.row;obtain ⟨_,⟨hv,h0⟩ | ⟨g,cap,cur,hv,hg,hh,_⟩⟩:=hrow
 · omega
 · rw [Value.slice.injEq] at hv
   obtain ⟨rfl,-,rfl⟩:=hv;refine ⟨g,c,rfl,hg,?_,hs,fun j=>?_⟩
   · rcases zF g w.heap.size with q | q
     · exact q
     · rw [Array.getElem?_eq_none q] at hh;cases hh
   · unfold World.frozen?
     rw [hh];simp
theorem kDB:ElemOf Tryz.prog 38 44 kA7.size 24:=⟨by kernel_rfl,by kernel_rfl⟩
structure Raw (k:Nat) (E:TypeId) (w:World) (g:Nat) (css:List (List Value)) (rest:List Value):Prop where
 len:∀ cs ∈ css,cs.length=k
 bx:Bx w g E (css.flatten++rest)
theorem Raw.lt {k:Nat} {E:TypeId} {w:World} {g:Nat} {css:List (List Value)} {rest:List Value} (h:Raw k E w g css rest):g<w.heap.size:=h.bx.lt
theorem flat_lt {css:List (List Value)} {k:Nat} (hm:∀ cs ∈ css,cs.length=k) {i j:Nat} (hi:i<css.length) (hj:j<k):i * k+j<css.flatten.length:=by
 rw [kBD hm];have:=Nat.mul_le_mul_right k (show i+1≤css.length from hi);rw [Nat.add_mul,Nat.one_mul] at this;omega
theorem Raw.cell {k:Nat} {E:TypeId} {w:World} {g:Nat} {css:List (List Value)} {rest:List Value} (h:Raw k E w g css rest) {i:Nat} {cs:List Value} (hi:css[i]? =some cs) (j:Nat) (u:Value) (hu:cs[j]? =some u):w.cell? ⟨g,i * k+j,none⟩=some u:=by
 refine h.bx.cell (i * k+j) u ?_
 have hil:i<css.length:=by
  rcases zF i css.length with q | q
  · exact q
  · rw [List.getElem?_eq_none q] at hi;cases hi
 have hj:j<k:=by
  have:=h.len cs (List.mem_iff_getElem?.2 ⟨i,hi⟩);rcases zF j cs.length with q | q
  · omega
  · rw [List.getElem?_eq_none q] at hu;cases hu
 rw [List.getElem?_append_left (flat_lt h.len hil hj)];exact kFS h.len i cs j u hi hu
theorem Raw.fz {k:Nat} {E:TypeId} {w:World} {g:Nat} {css:List (List Value)} {rest:List Value} (h:Raw k E w g css rest) (o:Nat):w.frozen? ⟨g,o,none⟩=false:=h.bx.fz o
theorem flat_set {k:Nat} {j:Nat} (hj:j<k) (u:Value):∀ (css:List (List Value)) (i:Nat) (cs:List Value) (rest:List Value),(∀ cs ∈ css,cs.length=k)→css[i]? =some cs→(css.flatten++rest).set (i * k+j) u=(css.set i (cs.set j u)).flatten++rest
 | [],i,cs,rest,hm,hi=>by simp at hi
 | c :: css,0,cs,rest,hm,hi=>by
   simp at hi;subst hi;have:=hm c (zM ..);rw [Nat.zero_mul,Nat.zero_add,List.flatten_cons,List.set_cons_zero,List.flatten_cons,List.append_assoc,List.append_assoc,List.set_append_left _ _ (by omega)]
 | c :: css,i+1,cs,rest,hm,hi=>by
   have hc:=hm c (zM ..);have ih:=flat_set hj u css i cs rest (fun d hd=>hm d (zO _ hd)) (by simpa using hi);rw [List.flatten_cons,List.append_assoc,List.set_append_right _ _ (by rw [hc,Nat.succ_mul];omega),hc,show (i+1) * k+j - k=i * k+j by rw [Nat.succ_mul];omega,ih,List.set_cons_succ,List.flatten_cons,List.append_assoc]
theorem Raw.set {k:Nat} {E:TypeId} {w:World} {g:Nat} {css:List (List Value)} {rest:List Value} (h:Raw k E w g css rest) {i:Nat} {cs:List Value} (hi:css[i]? =some cs) {j:Nat} (hj:j<k) (u:Value):Raw k E (w.setCell ⟨g,i * k+j,none⟩ u) g (css.set i (cs.set j u)) rest:=by
 refine ⟨fun d hd=>?_,?_⟩
 · rcases List.mem_or_eq_of_mem_set hd with q | q
   · exact h.len d q
   · rw [q,List.length_set];exact h.len cs (List.mem_iff_getElem?.2 ⟨i,hi⟩)
 · have:=h.bx.set (i * k+j) u
   rwa [flat_set hj u css i cs rest h.len hi] at this
theorem Raw.below {k:Nat} {E:TypeId} {w w':World} {g B:Nat} {css:List (List Value)} {rest:List Value} (h:Raw k E w g css rest) (hb:Below B w w') (hg:g<B):Raw k E w' g css rest:=⟨h.len,h.bx.below hb hg⟩
theorem Raw.alloc {k:Nat} {E:TypeId} {w:World} {g:Nat} {css:List (List Value)} {rest:List Value} (h:Raw k E w g css rest) (o:Obj):Raw k E (w.alloc o) g css rest:=⟨h.len,h.bx.alloc o⟩
theorem Raw.drew {k:Nat} {E:TypeId} {w:World} {g:Nat} {css:List (List Value)} {rest:List Value} (h:Raw k E w g css rest):Raw k E w.drew g css rest:=⟨h.len,h.bx.drew⟩
theorem Raw.other {k:Nat} {E:TypeId} {w:World} {g:Nat} {css:List (List Value)} {rest:List Value} (h:Raw k E w g css rest) {a:Addr} {u:Value} (hne:a.block≠g):Raw k E (w.setCell a u) g css rest:=⟨h.len,h.bx.other hne⟩
theorem Raw.keep {k:Nat} {E:TypeId} {w w':World} {g:Nat} {css:List (List Value)} {rest:List Value} (h:Raw k E w g css rest) (hb:w'.heap[g]? =w.heap[g]?):Raw k E w' g css rest:=⟨h.len,hb.trans h.bx⟩
theorem Raw.setRest {k:Nat} {E:TypeId} {w:World} {g:Nat} {css:List (List Value)} {rest:List Value} (h:Raw k E w g css rest) {o:Nat} (ho:css.length * k≤o) (u:Value):Raw k E (w.setCell ⟨g,o,none⟩ u) g css (rest.set (o - css.length * k) u):=by
 refine ⟨h.len,?_⟩;have:=h.bx.set o u
 rwa [List.set_append_right _ _ (by rw [kBD h.len];exact ho),kBD h.len] at this
theorem Raw.take {k:Nat} {E:TypeId} {w:World} {g:Nat} {css:List (List Value)} {rest:List Value} (h:Raw k E w g css rest) (m:Nat):Raw k E w g (css.take m) ((css.drop m).flatten++rest):=by
 refine ⟨fun d hd=>h.len d (List.mem_of_mem_take hd),?_⟩;rw [← List.append_assoc,← List.flatten_append,List.take_append_drop];exact h.bx
def Lies {α :Type} (R:Rep α) (S:Blk) (w:World) (g:Nat) (css:List (List Value)) (l:List α):Prop:=css.length=l.length∧∀ (i:Nat) (x: α),l[i]? =some x→∃ cs,css[i]? =some cs∧R.rd (fun q=>S q∧q≠g) w cs x
theorem Lies.at_ {α :Type} [Inhabited α] {R:Rep α} {S:Blk} {w:World} {g:Nat} {css:List (List Value)} {l:List α} (h:Lies R S w g css l) {i:Nat} (hi:i<l.length):∃ cs,css[i]? =some cs∧R.rd (fun q=>S q∧q≠g) w cs (l.getD i default):=h.2 i _ (kFA hi)
theorem Lies.frame {α :Type} {R:Rep α} {S:Blk} {w w':World} {g:Nat} {css:List (List Value)} {l:List α} (h:Lies R S w g css l) (hf:∀ q,S q→q≠g→q<w.heap.size→w'.heap[q]? =w.heap[q]?):Lies R S w' g css l :=
 ⟨h.1,fun i x hx=>let ⟨cs,e,r⟩:=h.2 i x hx;⟨cs,e,R.frame r fun q hq hlt=>hf q hq.1 hq.2 hlt⟩⟩
theorem Lies.below {α :Type} {R:Rep α} {S:Blk} {w w':World} {g:Nat} {css:List (List Value)} {l:List α} (h:Lies R S w g css l) (hb:Below w.heap.size w w'):Lies R S w' g css l:=h.frame fun q _ _ hlt=>hb.block q hlt
theorem Lies.self {α :Type} {R:Rep α} {S:Blk} {w:World} {g:Nat} {css:List (List Value)} {l:List α} (h:Lies R S w g css l) (o:Nat) (u:Value):Lies R S (w.setCell ⟨g,o,none⟩ u) g css l:=h.frame fun q _ hne _=>kAA (fun e=>hne e.symm)
theorem Lies.other {α :Type} {R:Rep α} {S:Blk} {w:World} {g:Nat} {css:List (List Value)} {l:List α} (h:Lies R S w g css l) {a:Addr} (hS:¬S a.block) (u:Value):Lies R S (w.setCell a u) g css l:=h.frame fun q hq _ _=>kAA (fun e=>hS (by rw [e];exact hq))
theorem Lies.drew {α :Type} {R:Rep α} {S:Blk} {w:World} {g:Nat} {css:List (List Value)} {l:List α} (h:Lies R S w g css l):Lies R S w.drew g css l:=h.frame fun _ _ _ _=>rfl
theorem Lies.mono {α :Type} {R:Rep α} {S S':Blk} {w:World} {g:Nat} {css:List (List Value)} {l:List α} (h:Lies R S w g css l) (hs:∀ q,S q→q<w.heap.size→S' q):Lies R S' w g css l :=
 ⟨h.1,fun i x hx=>let ⟨cs,e,r⟩:=h.2 i x hx;⟨cs,e,R.mono r fun q hq hlt=>⟨hs q hq.1 hlt,hq.2⟩⟩⟩
theorem Lies.set {α :Type} {R:Rep α} {S:Blk} {w:World} {g:Nat} {css:List (List Value)} {l:List α} (h:Lies R S w g css l) (i:Nat) {cs:List Value} {y: α} (hr:R.rd (fun q=>S q∧q≠g) w cs y):Lies R S w g (css.set i cs) (l.set i y):=by
 refine ⟨by rw [List.length_set,List.length_set,h.1],fun j x hx=>?_⟩;by_cases hij:i=j
 · subst hij
   have hi:i<l.length:=by
    rcases zF i l.length with q | q
    · exact q
    · rw [List.getElem?_eq_none (by rw [List.length_set];exact q)] at hx;cases hx
   rw [List.getElem?_set_self hi] at hx;cases hx;exact ⟨cs,List.getElem?_set_self (by rw [h.1];exact hi),hr⟩
 · rw [List.getElem?_set_ne hij] at hx
   obtain ⟨ds,e,r⟩:=h.2 j x hx;exact ⟨ds,by rw [List.getElem?_set_ne hij];exact e,r⟩
theorem Lies.take {α :Type} {R:Rep α} {S:Blk} {w:World} {g:Nat} {css:List (List Value)} {l:List α} (h:Lies R S w g css l) (m:Nat):Lies R S w g (css.take m) (l.take m):=by
 refine ⟨by rw [zN,zN,h.1],fun j x hx=>?_⟩;rw [List.getElem?_take] at hx
 split at hx
 · next q =>
   obtain ⟨ds,e,r⟩:=h.2 j x hx;exact ⟨ds,by rw [List.getElem?_take,if_pos q];exact e,r⟩
 · cases hx
theorem Own.raw {α :Type} {R:Rep α} {E:TypeId} {S:Blk} {w:World} {base:Nat} {v:Value} {l:List α} (h:Own R E S w base v l) (hl:0<l.length):∃ g c css rest,v= .slice (some ⟨g,0,none⟩) l.length c∧base≤g∧Raw R.size E w g css rest∧Lies R S w g css l∧l.length≤c∧c≤maxLen∧css.length * R.size+rest.length=c * R.size:=by
 obtain ⟨css,hcl,hrow,hel⟩:=h.row;obtain ⟨q0,⟨hv,h0⟩ | ⟨g,c,cur,rfl,hg,hh,hn,hm,hsz,ht⟩⟩:=hrow
 · omega
 · have hlen:∀ cs ∈ css,cs.length=R.size:=fun cs' hm'=>by
    obtain ⟨i',hi',rfl⟩:=List.getElem_of_mem hm';obtain ⟨cs2,e2,r2⟩:=hel i' (l[i']'(by omega)) (zG (by omega));rw [zG hi'] at e2;cases e2;exact R.len r2
   refine ⟨g,c,css,cur.toList.drop (l.length * R.size),rfl,hg,⟨hlen,?_⟩,⟨hcl,fun i x hx=>?_⟩,hn,hm,?_⟩
   · unfold Bx
     rw [← ht,List.take_append_drop]
     simpa using hh
   · obtain ⟨cs,e1,e2⟩:=hel i x hx
     exact ⟨cs,e1,R.mono e2 fun q hq _=>⟨hq.1,fun e=>hq.2 (by rw [e];rfl)⟩⟩
   · have:cur.toList.length=c * R.size:=by rw [← hsz];simp
     have h2:l.length * R.size≤c * R.size:=Nat.mul_le_mul_right _ hn;rw [List.length_drop,this,hcl];omega
theorem Raw.own {α :Type} {R:Rep α} {E:TypeId} {S:Blk} {w:World} {base g c:Nat} {css:List (List Value)} {rest:List Value} {l:List α} (h:Raw R.size E w g css rest) (hl:Lies R S w g css l) (hg:base≤g) (hn:l.length≤c) (hm:c≤maxLen) (hsz:css.length * R.size+rest.length=c * R.size):Own R E S w base (.slice (some ⟨g,0,none⟩) l.length c) l:=by
 refine ⟨css,hl.1,⟨by rw [kBD h.len,hl.1],.inr ⟨g,c,_,rfl,hg,h.bx,hn,hm,by simp [kBD h.len];omega,?_⟩⟩,fun i x hx=>?_⟩
 · rw [← hl.1]
   show ((css.flatten++rest).toArray.toList).take _=_
   simp only [List.toList_toArray];rw [List.take_append_of_le_length (by rw [kBD h.len];exact zR _),zT (by rw [kBD h.len];exact zR _)]
 · obtain ⟨cs,e1,e2⟩:=hl.2 i x hx
   exact ⟨cs,e1,R.mono e2 fun q hq _=>⟨hq.1,fun e=>hq.2 (by simp [Value.ownBlock] at e;exact e.symm)⟩⟩
theorem Kb.sets {g:Nat} {a:World}:∀ (vs:List Value) {b:World} (h:Kb g a b) (o:Nat),Kb g a (b.setCells g o vs)
 | [],b,h,o=>h
 | v :: vs,b,h,o=>Kb.sets vs (h.set o v) (o+1)
structure Kl (v v':Value) (w w':World):Prop where
 block:∀ k,k<w.heap.size→v.ownBlock≠some k→w'.heap[k]? =w.heap[k]?
 own:∀ q,v'.ownBlock=some q→v.ownBlock=some q∨w.heap.size≤q
theorem Kl.refl (v:Value) (w:World):Kl v v w w:=⟨fun _ _ _=>rfl,fun q h=>.inl h⟩
theorem Kl.below {v:Value} {w w':World} (h:Below w.heap.size w w'):Kl v v w w':=⟨fun k hk _=>h.block k hk,fun q h=>.inl h⟩
theorem Kl.trans {v v' v'':Value} {w w' w'':World} (h:Kl v v' w w') (h2:Kl v' v'' w' w'') (hs:w.heap.size≤w'.heap.size):Kl v v'' w w'' :=
 ⟨fun k hk hne=>by rw [h2.block k (by omega) (fun e=>(h.own k e).elim hne (fun q=>by omega)),h.block k hk hne],
  fun q hq=>(h2.own q hq).elim (fun e=>h.own q e) (fun e=>.inr (by omega))⟩
theorem Kb.kl {g:Nat} {w w':World} (h:Kb g w w') (n c n' c':Nat):Kl (.slice (some ⟨g,0,none⟩) n c) (.slice (some ⟨g,0,none⟩) n' c') w w':=⟨fun k hk hne=>h.block k hk (fun e=>hne (by rw [e];rfl)),fun q hq=>.inl hq⟩
theorem zeroCells_size (z:Array Value) (n:Nat):(Builtin.zeroCells z n).size=n * z.size:=by simp [Builtin.zeroCells]
theorem grow_Typ (n:Nat) (h1:1≤n) (hn:n≤1000) (w:World) :
 Calls Tryz.prog 109 #[.slice none 0 0,.int .i64 n] w fun e w'=>(∃ c,e= .returned (.slice (some ⟨w.heap.size,0,none⟩) 0 c)∧Own RTyp 27 (fun _=>False) w' w.heap.size (.slice (some ⟨w.heap.size,0,none⟩) 0 c) [])∧Below w.heap.size w w':=by
 obtain ⟨i0,z,hi,hz,hs,hb,hzs⟩:=kG7.parts;have hbig:(0+n) * i0.bytes≤140737488355328:=by rw [hb];omega
 refine (Go.Proofs.Any8.slices_Grow_grow Tryz.growT i0 z hi hz (by rw [hs];decide) none 0 0 n [] w (zR _) (by omega) hbig (by omega) (by simp) (fun _=>rfl) (fun a h=>by cases h)).mono ?_;rintro e w' ⟨rfl,rfl⟩;refine ⟨⟨_,rfl,⟨[],rfl,⟨by simp,.inr ⟨w.heap.size,_,(([]:List Value).toArray++Builtin.zeroCells z.cells (0+n - 0))++Builtin.zeroCells z.cells (grownCap w (0+n) 0 27 - (0+n)),rfl,zR _,?_,Nat.zero_le _,grownCap_le_maxLen _ _ _ _ (by unfold maxLen;omega),?_,by simp⟩⟩,fun i x hx=>by simp at hx⟩⟩,((zB _ _).drew).alloc (zR _) _⟩
 · show ((w.drew.heap).push _)[w.heap.size]? =_
   rw [show w.drew.heap=w.heap from rfl];simp;exact ⟨rfl,rfl⟩
 · have hge:=grownCap_ge w (0+n) 0 27
   simp only [Array.size_append,zeroCells_size,hzs];have hG:grownCap w (0+n) 0 (Tryz.growT_ren.t 25)=grownCap w (0+n) 0 27:=rfl;have h3:RTyp.size=3:=rfl;rw [hG,h3];simp only [List.size_toArray,List.length_nil];generalize grownCap w (0+n) 0 27=G at *;omega
theorem concat_Typ {S1 S2:Blk} (l1 l2:List Typ) (a1:Option Addr) (n1 c1:Nat) (a2:Option Addr) (n2 c2:Nat) (g:Nat) (w:World) (hbx:Bx w g 22 [.slice a1 n1 c1,.slice a2 n2 c2]) (h1:Sl RTyp S1 w a1 n1 c1 l1) (h2:Sl RTyp S2 w a2 n2 c2 l2) (hn:n1+n2≤1000) (hp:1≤n1+n2) :
 Calls Tryz.prog 52 #[.slice (some ⟨g,0,none⟩) 2 2] w fun e w'=>(∃ v,e= .returned v∧Own RTyp 27 (fun k=>S1 k∨S2 k) w' w.heap.size v (l1++l2))∧Below w.heap.size w w':=by
 have hl1:=h1.len;have hl2:=h2.len;have HL1:=hJ hl1;have HL2:=hJ hl2;have H1:=hJ h1;have H2:=hJ h2;have HB:=hJ hbx;have b0:=hbx.cell 0 _ rfl;have b1:=hbx.cell 1 _ rfl;have hgl:=hbx.lt;have HG:=hJ (grow_Typ (n1+n2) hp hn w);rw [Int.natCast_add] at HG;clear h1 h2 hbx hl1 hl2;go_enter func52,ntmps52
 go_wp2_with fail
 go_loopw [3,11] (fun sz i wr=>w=wr∧((i= .int .i64 0∧sz= .int .i64 0)∨(i= .int .i64 1∧sz= .int .i64 n1)∨(i= .int .i64 2∧sz= .int .i64 ((n1:Int)+n2)))) (fun _ i _=>2 - (intOf i).toNat)
 case atStart=>exact ⟨rfl,.inl ⟨rfl,rfl⟩⟩
 case round =>
  obtain ⟨rfl,⟨rfl,rfl⟩ | ⟨rfl,rfl⟩ | ⟨rfl,rfl⟩⟩:=hrel
  · go_wp2_with fail
    go_roundw
    case rel=>exact ⟨trivial,.inr (.inl ⟨rfl,by go_num⟩)⟩
    case measure=>simp [intOf]
  · go_wp2_with fail
    go_roundw
    case rel=>exact ⟨trivial,.inr (.inr ⟨rfl,by go_num⟩)⟩
    case measure=>simp [intOf]
  · go_wp2_with fail
    refine HG.out.mono ?_;rintro e w1 ⟨⟨c,rfl,hown⟩,hb1⟩;have HO:=hJ (hown.mono (S':=fun k=>S1 k∨S2 k) (fun k h _=>h.elim));have d0:=kAE b0 _ hb1;have d1:=kAE b1 _ hb1;have HB1:=hJ (HB.out.below hb1 hgl);clear hown b0 b1
    go_wp2_with fail
    go_loopw [6,27] (fun v i wr=>∃ v0:Value,v0=v∧Below w.heap.size w wr∧Hid (∀ q,v.ownBlock=some q→w.heap.size≤q)∧((i= .int .i64 0∧Hid (Own RTyp 27 (fun k=>S1 k∨S2 k) wr w.heap.size v []))∨(i= .int .i64 1∧Hid (Own RTyp 27 (fun k=>S1 k∨S2 k) wr w.heap.size v l1))∨(i= .int .i64 2∧Hid (Own RTyp 27 (fun k=>S1 k∨S2 k) wr w.heap.size v (l1++l2))))) (fun _ i _=>2 - (intOf i).toNat)
    case atStart=>exact ⟨_,rfl,hb1,hJ (fun q e=>HO.out.base_le q e),.inl ⟨rfl,HO⟩⟩
    case round =>
     obtain ⟨v0,rfl,hB,HN,⟨rfl,HO⟩ | ⟨rfl,HO⟩ | ⟨rfl,HO⟩⟩:=hrel
     · have HB2:=hJ (HB.out.below hB hgl)
       have e0:=HB2.out.cell 0 _ rfl;obtain ⟨a0,m0,c0,rfl⟩:=HO.out.shape;have hsz:=hB.size
       go_wp2_with (at_builtin;refine app_sl kG7 rfl _ _ rfl w.heap.size _ _ l1 rfl HO.out a1 n1 c1 rfl ((H1.out.later hB HN.out).mono (fun k hk _=>⟨.inl hk.1,hk.2⟩)) (by simp;omega) (by unfold maxLen;simp;omega) (by omega) ?_;intro v9 w9 hown9 hb9 hk9)
       go_roundw
       case rel=>exact ⟨_,rfl,hB.trans hb9,hJ (fun q e=>hown9.base_le q e),.inr (.inl ⟨rfl,hown9⟩)⟩
       case measure=>simp [intOf]
     · have HB2:=hJ (HB.out.below hB hgl)
       have e1:=HB2.out.cell 1 _ rfl;obtain ⟨a0,m0,c0,rfl⟩:=HO.out.shape;have hsz:=hB.size
       go_wp2_with (at_builtin;refine app_sl kG7 rfl _ _ rfl w.heap.size _ l1 l2 rfl HO.out a2 n2 c2 rfl ((H2.out.later hB HN.out).mono (fun k hk _=>⟨.inr hk.1,hk.2⟩)) (by rw [HL1.out];omega) (by unfold maxLen;rw [HL1.out];omega) (by omega) ?_;intro v9 w9 hown9 hb9 hk9)
       go_roundw
       case rel=>exact ⟨_,rfl,hB.trans hb9,hJ (fun q e=>hown9.base_le q e),.inr (.inr ⟨rfl,hown9⟩)⟩
       case measure=>simp [intOf]
     · obtain ⟨a0,m0,c0,rfl⟩:=HO.out.shape
       go_wp2_with fail
       go_ret;exact ⟨⟨_,rfl,HO.out⟩,hB⟩
def GoodV (x:Bnd):Prop:=x=bare x.kind x.v∧((x.kind=1∧kAZ x.v=true)∨(x.kind=2∧kAZ x.v=true)∨(x.kind=3∧kAQ x.v=true))
structure InvV (l:List Bnd):Prop where
 good:∀ x ∈ l,GoodV x
 one:∀ i,i<l.length→(l.take i).any (isB (l.getD i default).kind (l.getD i default).v)=false
theorem kCU {l:List Bnd} {k:Int} {v:Str}:kAW l k v<0 ↔ l.any (isB k v)=false:=by
 unfold kAW idx
 constructor
 · intro h
   cases ha:l.any (isB k v) with
   | true=>rw [ha,if_pos rfl] at h;omega
   | false=>rfl
 · intro h;rw [h,if_neg (by decide)];decide
theorem InvV.nil:InvV []:=⟨fun x hx=>by simp at hx,fun i hi=>by simp at hi⟩
theorem InvV.add {l:List Bnd} (h:InvV l) {k:Int} {v:Str} (hg:GoodV (bare k v)):InvV (addV l k v):=by
 unfold addV
 split
 · exact h
 · next q =>
   have hn:=kCU.1 (show kAW l k v<0 by omega);refine ⟨fun x hx=>?_,fun i hi=>?_⟩
   · rcases List.mem_append.1 hx with r | r
     · exact h.good x r
     · rw [List.mem_singleton.1 r];exact hg
   · rw [zP] at hi
     rcases zF i l.length with r | r
     · have e:(l++[bare k v]).getD i default=l.getD i default:=by
        rw [zD,zD,List.getElem?_append_left r]
       rw [e,List.take_append_of_le_length (Nat.le_of_lt r)];exact h.one i r
     · have hi2:i=l.length:=by simp at hi;omega
       subst hi2
       have e:(l++[bare k v]).getD l.length default=bare k v:=by
        rw [zD,List.getElem?_append_right (zR _)];simp
       rw [e,List.take_left];exact hn
theorem InvV.addAll {l:List Bnd} (h:InvV l) (ns:List Str) (hn:∀ n ∈ ns,kAZ n=true):InvV (addAll l ns):=by
 induction ns generalizing l with
 | nil=>exact h
 | cons n ns ih=>exact ih (h.add ⟨rfl,.inl ⟨rfl,hn n (zM ..)⟩⟩) (fun m hm=>hn m (zO _ hm))
theorem InvV.addBs {l:List Bnd} (h:InvV l) (vs:List Bnd) (hn:∀ x ∈ vs,GoodV x):InvV (addBs l vs):=by
 induction vs generalizing l with
 | nil=>exact h
 | cons x vs ih =>
   refine ih (h.add ?_) (fun m hm=>hn m (zO _ hm));have:=hn x (zM ..);rw [← this.1];exact this
theorem lin_names {x:Lin} (h:kAB x=true):∀ n ∈ kAL x,kAZ n=true:=by
 intro n hn;obtain ⟨t,ht,rfl⟩:=List.mem_map.1 hn;exact (kAV h).2.2.2.1 t ht
theorem lins_names {l:List Lin} (h:∀ x ∈ l,kAB x=true):∀ n ∈ l.flatMap kAL,kAZ n=true:=by
 intro n hn;obtain ⟨x,hx,q⟩:=List.mem_flatMap.1 hn;exact lin_names (h x hx) n q
theorem varsV_inv {s:Shp} (h:kAK s=true):InvV (kC3 s):=by
 unfold kC3;rw [if_pos h];unfold varsS;obtain ⟨h1,_,h3⟩:=kFM h;refine InvV.addAll ?_ _ (lins_names h3);unfold rowV
 split
 · exact InvV.nil
 · next q =>
   unfold rowB at h1;rw [Bool.or_eq_true] at h1;rcases h1 with r | r
   · exact absurd r q
   · exact InvV.nil.add ⟨rfl,.inr (.inl ⟨rfl,r⟩)⟩
theorem varsTy_inv {t:Typ} (h:kAH t=true):InvV (kBN t):=by
 unfold kBN;rw [if_pos h];unfold kAH at h;rw [zA] at h
 split
 · next q=>exact (varsV_inv h.2).add ⟨rfl,.inr (.inr ⟨rfl,q⟩)⟩
 · exact varsV_inv h.2
def kBE (l:List Typ):List Bnd:=l.foldl (fun o t=>addBs o (kBN t)) []
theorem varsAll_inv {l:List Typ} (h:∀ t ∈ l,kAH t=true):InvV (kBE l):=by
 unfold kBE
 suffices H:∀ (l:List Typ) (o:List Bnd),(∀ t ∈ l,kAH t=true)→InvV o→InvV (l.foldl (fun o t=>addBs o (kBN t)) o) from H l [] h InvV.nil
 intro l
 induction l with
 | nil=>exact fun o _ h=>h
 | cons t l ih=>exact fun o ht h=>ih _ (fun u hu=>ht u (zO _ hu)) (h.addBs _ (varsTy_inv (ht t (zM ..))).good)
theorem kBV {s:Sch} (h:kAI s=true):∀ t ∈ allT s,kAH t=true:=by
 obtain ⟨_,_,h3,h4,_⟩:=kAO h;intro t ht;unfold allT at ht;rcases List.mem_append.1 ht with q | q
 · exact h3 t q
 · rw [List.mem_singleton.1 q];exact h4
theorem kA5 {s:Sch} (h:kAI s=true):InvV (kAG s):=by
 unfold kAG;rw [if_pos h];exact (varsAll_inv (kBV h)).addAll _ (lins_names (kAO h).2.2.2.2)
theorem addBs_len (vs:List Bnd):∀ l:List Bnd,(addBs l vs).length≤l.length+vs.length:=by
 induction vs with
 | nil=>intro l;exact zR _
 | cons x vs ih =>
   intro l;have h1:=ih (addV l x.kind x.v);have h2:=addV_len l x.kind x.v
   show (addBs (addV l x.kind x.v) vs).length≤_
   rw [List.length_cons];omega
theorem varsTy_len (t:Typ):(kBN t).length≤101:=by
 unfold kBN;have h1:=varsV_len t.shape
 split
 · split
   · have h2:=addV_len (kC3 t.shape) 3 t.elem;omega
   · omega
 · exact Nat.zero_le _
theorem kEI (l:List Typ):(kBE l).length≤l.length * 101:=by
 unfold kBE
 suffices H:∀ (l:List Typ) (o:List Bnd),(l.foldl (fun o t=>addBs o (kBN t)) o).length≤o.length+l.length * 101 by
  have:=H l [];simpa using this
 intro l
 induction l with
 | nil=>intro o;simp
 | cons t l ih =>
   intro o;have h1:=ih (addBs o (kBN t));have h2:=addBs_len (kBN t) o;have h3:=varsTy_len t;rw [List.foldl_cons,List.length_cons];omega
theorem kB3 {s:Sch}:(kAG s).length≤3000:=by
 unfold kAG
 split
 · next h =>
   obtain ⟨h1,h2,_,_,h5⟩:=kAO h;have q1:=kBQ (s.wh.flatMap kAL) ((allT s).foldl (fun o t=>addBs o (kBN t)) []);have q2:=kEI (allT s);have q3:=kE2 s.wh h5;have q4:(allT s).length≤13:=by unfold allT;rw [zP];simp;omega
   unfold kBE at q2;omega
 · exact Nat.zero_le _
theorem kGF:∀ (k n:Nat),n<10 ^ (k+1)→(Lib.decDigits n).length≤k+1
 | 0,n,h=>by unfold Lib.decDigits;rw [dif_pos (by simpa using h)];simp
 | k+1,n,h=>by
   unfold Lib.decDigits
   split
   · simp
   · rw [zP]
     have:=kGF k (n / 10) (by rw [Nat.div_lt_iff_lt_mul (by decide)];rw [Nat.pow_succ] at h;exact h);simp;omega
theorem nm_list (c:UInt8) (n:Nat):(nm c n).data.toList=c :: Lib.decDigits n:=by
 unfold nm;rw [ByteArray.data_append];simp
theorem nm_size (c:UInt8) (n:Nat) (h:n≤3000):1≤(nm c n).size∧(nm c n).size≤5:=by
 have h1:=kGF 3 n (by omega);have h2:(nm c n).size=(nm c n).data.toList.length:=rfl;rw [h2,nm_list,List.length_cons];omega
theorem nm_zero (c:UInt8) (n:Nat):bt (nm c n) 0=(c.toNat:Int):=by
 apply kJD;rw [nm_list];rfl
theorem nm_digit (c:UInt8) (n i:Nat) (h0:0<i) (h:i<(nm c n).size):kAT (bt (nm c n) i)=true:=by
 obtain ⟨d,hd,e⟩:=at_bt (nm c n) i h;rw [e];rw [nm_list] at hd;obtain ⟨j,rfl⟩:∃ j,i=j+1:=⟨i - 1,by omega⟩
 rw [List.getElem?_cons_succ] at hd;have:=dec_digit n d (List.mem_iff_getElem?.2 ⟨j,hd⟩);unfold kAT;exact decide_eq_true (by omega)
theorem nm_name (c:UInt8) (hc:97≤c.toNat∧c.toNat≤122) (n:Nat) (h:n≤3000):kAZ (nm c n)=true:=by
 have h0:=nm_zero c n;have h1:=nm_size c n h;rw [kHN _ (by rw [h0];omega),zA];refine ⟨decide_eq_true ⟨h1.1,by omega⟩,kDP fun i hi=>?_⟩;rcases Nat.eq_zero_or_pos i with q | q
 · subst q
   rw [h0];unfold kBA;rw [decide_eq_true (by omega)];rfl
 · rw [nm_digit c n i q hi]
   have:(i != 0)=true:=bne_iff_ne.2 (by omega);rw [this];simp
theorem nm_elem (n:Nat) (h:n≤3000):kAQ (nm 65 n)=true:=by
 have h0:=nm_zero 65 n;have h1:=nm_size 65 n h;unfold kAQ;rw [zA,zA];refine ⟨decide_eq_true ⟨h1.1,by omega⟩,decide_eq_true (by rw [h0];decide),kDP fun i hi=>?_⟩;rcases Nat.eq_zero_or_pos i with q | q
 · subst q;rfl
 · rw [nm_digit 65 n i q hi];simp
theorem cnt_le (k:Int) (l:List Bnd):cntK k l≤l.length:=List.countP_le_length
theorem kGU (n:Nat) (b:Bnd):(renB n b).kind=b.kind∧(renB n b).v=b.v:=by
 unfold renB
 split
 · exact ⟨rfl,rfl⟩
 · split <;> exact ⟨rfl,rfl⟩
theorem kGT (l:List Bnd):(ren l).length=l.length:=by unfold ren;rw [List.length_map,List.length_range]
theorem ren_at {l:List Bnd} {i:Nat} (h:i<l.length):(ren l).getD i default=kE9 l i:=by
 unfold ren;rw [zD,List.getElem?_map,List.getElem?_range h];rfl
theorem renB_valid {n:Nat} (hn:n≤3000) {b:Bnd} (h:GoodV b):kCV (renB n b)=true:=by
 obtain ⟨e,h⟩:=h;generalize b.kind=k at *;generalize b.v=v at *;subst e;have e0:(⟨#[]⟩:Str).toList.isEmpty=true:=by rw [ByteArray.toList_eq];rfl
 have e1:kDA ⟨⟨#[]⟩,[]⟩=true:=by unfold kDA;rw [e0];rfl
 rcases h with ⟨rfl,h⟩ | ⟨rfl,h⟩ | ⟨rfl,h⟩
 · show (kAZ v && (kAB (varL (nm 110 n)) && (kDA ⟨⟨#[]⟩,[]⟩ && (⟨#[]⟩:Str).toList.isEmpty)))=true
   rw [h,varL_valid (nm_name 110 (by decide) n hn),e0,e1];rfl
 · show (kAZ v && (kAK ⟨nm 114 n,[]⟩ && (zeroL ⟨0,[]⟩ && (⟨#[]⟩:Str).toList.isEmpty)))=true
   have:kAK ⟨nm 114 n,[]⟩=true:=by
    unfold kAK rowB;simp [nm_name 114 (by decide) n hn]
   rw [h,this,e0];rfl
 · show (kAQ v && (kD1 (nm 65 n) && (zeroL ⟨0,[]⟩ && kDA ⟨⟨#[]⟩,[]⟩)))=true
   have:kD1 (nm 65 n)=true:=by unfold kD1;rw [nm_elem n hn];simp
   rw [h,this,e1];rfl
theorem ren_valid {l:List Bnd} (h:InvV l) (hl:l.length≤3000):kA8 (ren l)=true:=by
 unfold kA8;rw [List.all_eq_true];intro i hi;have hi:=List.mem_range.1 hi;rw [kGT] at hi;unfold bndOk;rw [ren_at hi,zA];have hg:=h.good _ (kAM hi);refine ⟨renB_valid (zE (cnt_le _ _) (by rw [zN];omega)) hg,decide_eq_true (kCU.2 ?_)⟩;have hk:=kGU (cntK (l.getD i default).kind (l.take (i+1))) (l.getD i default);unfold kE9;rw [hk.1,hk.2,List.any_eq_false];intro x hx;have h1:=List.any_eq_false.1 (h.one i hi);obtain ⟨j,hj,e⟩:=List.getElem_of_mem hx;rw [zN,kGT] at hj;have hjl:j<l.length:=by omega
 have e2:x=kE9 l j:=by
  rw [← e,List.getElem_take,← ren_at hjl,zD,zG (by rw [kGT];exact hjl)];rfl
 have hkj:=kGU (cntK (l.getD j default).kind (l.take (j+1))) (l.getD j default)
 have h2:=h1 (l.getD j default) (by
  rw [List.mem_iff_getElem?];exact ⟨j,by rw [List.getElem?_take,if_pos (by omega)];exact kFA hjl⟩)
 rw [e2];unfold kE9 isB;rw [hkj.1,hkj.2];exact h2
theorem kIG {s:Sch} (h:kAI s=true):kA8 (ren (kAG s))=true:=ren_valid (kA5 h) kB3
def Named (l:List Coef):Prop:=∀ t ∈ l,kAZ t.v=true
theorem plus_names {l:List Coef} (hs:Srt l) (h:Named l) {s:Str} (hn:kAZ s=true) (c:Int):Named (plus l s c):=fun t ht=>by
 unfold plus at ht;rw [kEM hs] at ht;rcases ins_mem s c l t (List.mem_filter.1 ht).1 with q | q
 · rw [q];exact hn
 · exact h t q
theorem times_names (x:List Coef) (k:Int) (hx:Named x):∀ l:List Coef,Srt l→Named l→Named (kBL l x k):=by
 induction x with
 | nil=>exact fun l _ h=>h
 | cons t x ih=>exact fun l hs h=>ih (fun u hu=>hx u (zO _ hu)) _ (kHM hs _ _) (plus_names hs h (hx t (zM ..)) _)
theorem subRun_names {b:List Bnd} (hg:GoodB b) (c:Int) (ts:List Coef) (ht:Named ts):Srt (kD4 b c ts).terms∧Named (kD4 b c ts).terms:=by
 suffices H:∀ (ts:List Coef) (acc:Lin),Named ts→Srt acc.terms→Named acc.terms→Srt (ts.foldl (fun acc t=>kCJ acc (sub1 b t.v) t.c) acc).terms∧Named (ts.foldl (fun acc t=>kCJ acc (sub1 b t.v) t.c) acc).terms from H ts ⟨c,[]⟩ ht List.Pairwise.nil (fun t ht=>by simp at ht)
 intro ts
 induction ts with
 | nil=>exact fun acc _ h1 h2=>⟨h1,h2⟩
 | cons t ts ih =>
   intro acc ht h1 h2;exact ih _ (fun u hu=>ht u (zO _ hu)) (times_srt _ _ _ h1) (times_names _ _ (kAV (kHD hg (ht t (zM ..)))).2.2.2.1 _ h1 h2)
theorem subRaw_sz {b:List Bnd} (hg:GoodB b) {x:Lin} (h:kAB x=true):szL (kAD b x):=fun t ht=>zE (kC7 ((subRun_names hg x.const x.terms (kAV h).2.2.2.1).2 t ht)) (by decide)
open Go.RowKit Go.Maps
theorem kGL:Keyed Tryz.prog 9:=string_keyed underlying9
theorem zeroInt (w:World):(zeroValue 3).run Tryz.prog w= .ok (.int .i64 0) w:=by kernel_rfl
abbrev mapRd (P:Program):Value→Option (DataW Unit × List MemPlace):=plainElem P 3
structure MapF (w:World) (b n:Nat) (D:DataW Unit) (f:Str→Int):Prop where
 own:w.ownsMap Tryz.prog 9 (mapRd Tryz.prog) b n D
 at_:∀ s:Str,D.atKey (.string s.data.toList) (.lit (.int .i64 0))= .lit (.int .i64 (f s))
theorem MapF.kept {w w':World} {b n:Nat} {D:DataW Unit} {f:Str→Int} (h:MapF w b n D f) (hb:Below w.heap.size w w'):MapF w' b n D f :=
 ⟨h.own.kept ⟨hb.os,hb.tape,hb.output,hb.size,fun k hk _=>hb.block k hk⟩ (row:=none) (by simp),h.at_⟩
theorem MapF.lt {w:World} {b n:Nat} {D:DataW Unit} {f:Str→Int} (h:MapF w b n D f):b<w.heap.size:=h.own.lt
theorem MapF.setCell {w:World} {b n:Nat} {D:DataW Unit} {f:Str→Int} (h:MapF w b n D f) {a:Addr} (ha:a.block≠b) (u:Value):MapF (w.setCell a u) b n D f:=by
 obtain ⟨es,clock,h1,h2⟩:=h.own;exact ⟨⟨es,clock,(kAA ha).trans h1,h2⟩,h.at_⟩
theorem MapF.made (w:World):MapF (w.alloc (.map #[] 0)) w.heap.size 0 (.map []) (fun _=>0):=⟨World.ownsMap_made _ _ _ _,fun s=>rfl⟩
theorem MapF.look {w:World} {b n:Nat} {D:DataW Unit} {f:Str→Int} (h:MapF w b n D f) (s:Str) (hs:s.size≤maxLen):(Instr.lookup 124 (.map (some b)) (.string s) false).run Tryz.prog w= .ok (.int .i64 (f s)) w:=by
 obtain ⟨c,hrun,hat,_⟩:=h.own.lookup_int kGL underlying124 underlying3 (zeroInt w) (WideMaps.keyOf_string_mk underlying9 hs);rw [h.at_ s] at hat;rw [hrun]
 injection hat with hat
 injection hat with _ hat
 rw [hat]
theorem MapF.put {w:World} {b n:Nat} {D:DataW Unit} {f:Str→Int} (h:MapF w b n D f) (hn:n<maxLen) (s:Str) (hs:s.size≤maxLen) (c:Int) (hc: -9223372036854775808≤c∧c≤9223372036854775807) :
 ∃ w' D',(Instr.mapUpdate 124 (.map (some b)) (.string s) (.int .i64 c)).run Tryz.prog w= .ok () w'∧MapF w' b (n+1) D' (fun v=>if seq s v then c else f v)∧w.grownBy w' (some b):=by
 obtain ⟨w',h1,h2,h3⟩:=h.own.update kGL underlying124 hn (WideMaps.keyOf_string_mk underlying9 hs) (plainElem_int underlying3 (WalkArith.wf_i64 hc));refine ⟨w',_,h1,⟨h2,fun v=>?_⟩,h3⟩;obtain ⟨es,hD,_⟩:=h.own.entries kGL;by_cases hv:seq s v=true
 · rw [← (kA6 s v).1 hv,seq_refl]
   exact atKey_put_same (by rw [hD];first | exact ⟨_,rfl⟩ | trivial) (kGL.key (WideMaps.keyOf_string_mk underlying9 hs)) _ _
 · rw [if_neg hv,atKey_put_other (fun e=>hv ?_)]
   · exact h.at_ v
   · injection e with e
     exact (kA6 s v).2 (ByteArray.ext (Array.toList_inj.1 e.symm))
structure K2 (p b:Nat) (w w':World):Prop where
 os:w'.os=w.os
 tape:w'.tape=w.tape
 output:w'.output=w.output
 size:w.heap.size≤w'.heap.size
 block:∀ k,k<w.heap.size→k≠p→k≠b→w'.heap[k]? =w.heap[k]?
theorem K2.refl (p b:Nat) (w:World):K2 p b w w:=⟨rfl,rfl,rfl,zR _,fun _ _ _ _=>rfl⟩
theorem K2.trans {p b:Nat} {w w' w'':World} (h:K2 p b w w') (h':K2 p b w' w''):K2 p b w w'' :=
 ⟨h'.os.trans h.os,h'.tape.trans h.tape,h'.output.trans h.output,zE h.size h'.size,fun k hk h1 h2=>(h'.block k (Nat.lt_of_lt_of_le hk h.size) h1 h2).trans (h.block k hk h1 h2)⟩
theorem K2.of_below {p b:Nat} {w w':World} (h:Below w.heap.size w w'):K2 p b w w':=⟨h.os,h.tape,h.output,h.size,fun k hk _ _=>h.block k hk⟩
theorem K2.of_grown {p b:Nat} {w w':World} (h:w.grownBy w' (some b)):K2 p b w w':=⟨h.os,h.tape,h.output,h.size,fun k hk _ h2=>h.block k hk (fun e=>h2 (by cases e;rfl))⟩
theorem K2.set {p b:Nat} (w:World) (j:Nat) (u:Value):K2 p b w (w.setCell ⟨p,j,none⟩ u):=⟨rfl,rfl,rfl,by simp,fun k _ h1 _=>kAA (fun e=>h1 e.symm)⟩
theorem K2.below {p b B:Nat} {w w':World} (h:K2 p b w w') (hp:B≤p) (hb:B≤b) (hB:B≤w.heap.size):Below B w w':=⟨h.os,h.tape,h.output,h.size,fun k hk=>h.block k (by omega) (by omega) (by omega)⟩
theorem K2.bx {p b:Nat} {w w':World} (h:K2 p b w w') {g:Nat} {E:TypeId} {cs:List Value} (hb:Bx w g E cs) (h1:g≠p) (h2:g≠b):Bx w' g E cs:=(h.block g hb.lt h1 h2).trans hb
def prun (s:Str) (c:Int) (l:List Coef) (k:Nat):Bool × List Coef:=(l.take k).foldl (kBC s c) (false,[])
theorem prun_next {s:Str} {c:Int} {l:List Coef} {k:Nat} (h:k<l.length):prun s c l (k+1)=kBC s c (prun s c l k) (l.getD k default):=by
 unfold prun;rw [kAU h,List.foldl_append];rfl
theorem pstep_len (s:Str) (c:Int) (p:Bool × List Coef) (t:Coef):(kBC s c p t).2.length≤p.2.length+2:=by
 unfold kBC
 split <;> split <;> simp
theorem prun_len (s:Str) (c:Int) (l:List Coef):∀ k,k≤l.length→(prun s c l k).2.length≤k * 2
 | 0,_=>by simp [prun]
 | k+1,h=>by
   have h1:=prun_len s c l k (by omega);have h2:=pstep_len s c (prun s c l k) (l.getD k default);rw [prun_next (by omega)];omega
theorem pstep_old {s:Str} {c:Int} {acc:List Coef} {t:Coef} (put:Bool) (h1:(!put && slt s t.v)=false) (h2:seq t.v s=false):kBC s c (put,acc) t=(put,acc++[t]):=by
 unfold kBC;simp only [h1,h2];cases put <;> simp_all
theorem pstep_eq {s:Str} {c:Int} {acc:List Coef} {t:Coef} (put:Bool) (h1:(!put && slt s t.v)=false) (h2:seq t.v s=true):kBC s c (put,acc) t=(true,acc++[⟨t.v,t.c+c⟩]):=by
 unfold kBC;simp only [h1,h2];simp
theorem pstep_new {s:Str} {c:Int} {acc:List Coef} {t:Coef} (h1:slt s t.v=true):kBC s c (false,acc) t=(true,acc++[⟨s,c⟩]++[t]):=by
 unfold kBC;rw [slt_ne' h1,h1];simp
def nzs (F:List Coef) (i:Nat):List Coef:=(F.take i).filter nzB
theorem nzs_len (F:List Coef) (i:Nat):(nzs F i).length≤i:=by
 unfold nzs;have h1:=List.length_filter_le nzB (F.take i);have h2:=List.length_take_le i F;omega
theorem nzs_next {F:List Coef} {i:Nat} (h:i<F.length):nzs F (i+1)=if (F.getD i default).c=0 then nzs F i else nzs F i++[F.getD i default]:=by
 unfold nzs;rw [kAU h,List.filter_append];by_cases q:(F.getD i default).c=0
 · rw [if_pos q,List.filter_cons_of_neg (by unfold nzB;rw [q];decide)];simp
 · rw [if_neg q,List.filter_cons_of_pos (show nzB (F.getD i default)=true from bne_iff_ne.2 q)];simp
theorem Sl.setCoef {S:Blk} {w:World} {g n c:Nat} {M:List Coef} (h:Sl kA7 S w (some ⟨g,0,none⟩) n c M) (k:Nat) (hk:k<n) (y:Coef) :
 Sl kA7 S ((w.setCell ⟨g,k * 2,none⟩ (.string y.v)).setCell ⟨g,k * 2+1,none⟩ (.int .i64 y.c)) (some ⟨g,0,none⟩) n c (M.set k y):=by
 refine ⟨by rw [List.length_set];exact h.len,h.cap,h.max,h.nil,fun i x hx=>?_⟩
 have hi:i<M.length:=by
  rcases zF i M.length with q | q
  · exact q
  · rw [List.getElem?_eq_none (by rw [List.length_set];exact q)] at hx;cases hx
 obtain ⟨b0,off0,cs0,e0,hs0,hr0,hc0⟩:=h.at_ i _ (zG hi);cases e0;obtain rfl:cs0=_:=hr0;obtain ⟨c0,c1⟩:=h.coef k hk;rw [Nat.zero_add] at c0 c1;by_cases hik:i=k
 · subst hik
   rw [List.getElem?_set_self hi] at hx;cases hx;refine ⟨g,0,[.string y.v,.int .i64 y.c],rfl,hs0,rfl,fun j u hu=>?_⟩
   match j,hu with
   | 0,hu =>
     simp at hu;subst hu;rw [Nat.zero_add]
     show ((w.setCell _ _).setCell ⟨g,i * 2+1,none⟩ _).cell? ⟨g,i * 2+0,none⟩=_
     rw [kDT _ _ _ _ _ (by omega),Nat.add_zero];exact World.cell?_setCell_same' _ _ _ (by rw [c0];rfl)
   | 1,hu =>
     simp at hu;subst hu;rw [Nat.zero_add]
     show ((w.setCell _ _).setCell ⟨g,i * 2+1,none⟩ _).cell? ⟨g,i * 2+1,none⟩=_
     exact World.cell?_setCell_same' _ _ _ (by rw [kDT _ _ _ _ _ (by omega),c1];rfl)
 · rw [List.getElem?_set_ne (fun e=>hik e.symm),zG hi] at hx
   cases hx;refine ⟨g,0,[.string (M[i]).v,.int .i64 (M[i]).c],rfl,hs0,rfl,fun j u hu=>?_⟩;have:=hc0 j u hu
   have hj:j<2:=by
    rcases zF j 2 with q | q
    · exact q
    · rw [List.getElem?_eq_none (by simpa using q)] at hu;cases hu
   rw [kDT _ _ _ _ _ (by show k * 2+1≠0+(i * 2+j);omega),kDT _ _ _ _ _ (by show k * 2≠0+(i * 2+j);omega)];exact this
theorem pstep_grow (s:Str) (c:Int) (p:Bool × List Coef) (t:Coef):p.2.length<(kBC s c p t).2.length:=by
 unfold kBC
 split <;> split <;> simp <;> omega
theorem prun_grow (s:Str) (c:Int):∀ (l:List Coef) (p:Bool × List Coef),p.2.length≤(l.foldl (kBC s c) p).2.length
 | [],p=>zR _
 | t :: l,p=>zE (Nat.le_of_lt (pstep_grow s c p t)) (prun_grow s c l _)
theorem plusF_pos (l:List Coef) (s:Str) (c:Int):0<(plusF l s c).length:=by
 unfold plusF plusRun;cases l with
 | nil=>simp
 | cons t l =>
   have h1:=pstep_grow s c (false,[]) t;have h2:=prun_grow s c l (kBC s c (false,[]) t);rw [List.foldl_cons]
   split
   · omega
   · rw [zP];omega
theorem prun_full (s:Str) (c:Int) (l:List Coef) {k:Nat} (h:k=l.length):plusF l s c=if (prun s c l k).1 then (prun s c l k).2 else (prun s c l k).2++[⟨s,c⟩]:=by
 unfold prun plusF plusRun;rw [h,List.take_length]
theorem getD_drop {M F:List Coef} {i:Nat} (h:M.drop i=F.drop i):M.getD i default=F.getD i default:=by
 have h1:(M.drop i)[0]? =(F.drop i)[0]? :=by rw [h]
 rw [List.getElem?_drop,List.getElem?_drop,Nat.add_zero] at h1;rw [zD,zD,h1]
theorem kI7 {M F:List Coef} {i:Nat} (h:M.drop i=F.drop i):M.drop (i+1)=F.drop (i+1):=by
 rw [← List.drop_drop,← List.drop_drop,h]
theorem take_put {M N:List Coef} {k:Nat} (hk:k<M.length) (h:M.take k=N) (y:Coef):(M.set k y).take (k+1)=N++[y]:=by
 rw [List.take_add_one,List.take_set_of_le (zR _),h,List.getElem?_set_self hk];rfl
theorem ref04_Plus {S:Blk} {x:Lin} {cs:List Value} {w:World} (h:RLin.rd S w cs x) (s:Str) (c:Int) (hn:x.terms.length≤1000000) (hb:∀ t ∈ x.terms,-9223372036854775808≤t.c+c∧t.c+c≤9223372036854775807) :
 Calls Tryz.prog 215 #[.agg cs.toArray,.string s,.int .i64 c] w fun e w'=>(∃ ds,e= .returned (.agg ds.toArray)∧RLin.rd (fun k=>w.heap.size≤k) w' ds ⟨x.const,plus x.terms s c⟩)∧Below w.heap.size w w':=by
 obtain ⟨t,rfl,a,cp,rfl,hs⟩:=h;have HBd:=hJ hb;have hL:x.terms.length=x.terms.length:=rfl;generalize hL2:x.terms.length=n at *;have HL:=hJ hL2;clear hL hL2 hb;obtain ⟨B0,ya,yb,yc,hW0⟩:=box3 w 40 [.int .i64 x.const,.slice a n cp] 40 [.int .i64 0,.slice none 0 0] 40 [.int .i64 x.const,.slice none 0 0];have xa0:=box0 ya 0 _ rfl;have xa1:=box0 ya 1 _ rfl;have xb0:=box0 yb 0 _ rfl;have xb1:=box0 yb 1 _ rfl;have xc0:=box0 yc 0 _ rfl;have xc1:=box0 yc 1 _ rfl;have bka:Bx _ _ _ _:=ya;have bkb:Bx _ _ _ _:=yb;have bkc:Bx _ _ _ _:=yc;clear ya yb yc;have HS:=hJ hs;have hm:=hs.small;clear hs xb0 xb1 xc0 xc1;have HB6:=hJ bkb;have HB7:=hJ bkc;clear bka bkb bkc;go_enter func215,ntmps215
 go_wp2_with fail
 generalize (((w.alloc (.cells #[.int .i64 x.const,.slice a n cp] 40)).alloc (.cells #[.int .i64 0,.slice none 0 0] 40)).alloc (.cells #[.int .i64 x.const,.slice none 0 0] 40))=W at *
 go_loopw [8,9] (fun p i wr=>∃ k:Nat,k≤n∧i= .int .i64 k∧p= .bool (prun s c x.terms k).1∧Hid (∃ v,Bx wr (w.heap.size+1+1) 40 [.int .i64 x.const,v]∧Own kA7 44 (fun _=>False) wr (w.heap.size+3) v (prun s c x.terms k).2)∧Hid (Below (w.heap.size+1+1) W wr)) (fun _ i _=>n - (intOf i).toNat)
 case atStart=>exact ⟨0,Nat.zero_le _,rfl,rfl,hJ ⟨_,HB7.out,Own.nil _ _ _ _ _⟩,hJ (zB _ _)⟩
 case round =>
  obtain ⟨k,hk,rfl,rfl,HO,HB⟩:=hrel;obtain ⟨v,hbx,hown⟩:=HO.out;have HBX:=hJ hbx;have HOwn:=hJ hown;clear HO hbx hown;have HLn:=hJ (prun_len s c x.terms k (by rw [HL.out];exact hk));have y1:wr.cell? ⟨w.heap.size,1,none⟩=some (.slice a n cp):=by rw [HB.out.cell (by simp <;> omega)];exact xa1
  have hws:w.heap.size+3≤wr.heap.size:=by have:=HB.out.size;omega
  have hlt0:w.heap.size<wr.heap.size:=by omega
  have hlt2:w.heap.size+1+1<wr.heap.size:=by omega
  have z1:=HBX.out.cell 1 _ rfl;have f1:=HBX.out.fz 1;by_cases hlt:k<n
  · obtain ⟨b,off,rfl,hbW,_⟩:=HS.out.form k hlt
    obtain ⟨c0,c1⟩:=(HS.out.below (B0.out.trans (HB.out.mono (by omega)))).coef k hlt;have HKl:Hid (k<x.terms.length):=hJ (by rw [HL.out];exact hlt);have HNext:=hJ (prun_next (s:=s) (c:=c) HKl.out);obtain ⟨hb1,hb2⟩:=HBd.out _ (kAM HKl.out);generalize x.terms.getD k default=t at *;generalize prun s c x.terms k=p at *;obtain ⟨put,acc⟩:=p;simp only at HOwn HLn;have hln:acc.length≤k * 2:=HLn.out;cases put with
    | false =>
      by_cases hl:Op.bytesLess s.toList t.v.toList=true
      · have he:(t.v.toList==s.toList)=false:=slt_ne' hl
        have hl2:Op.bytesLess t.v.toList s.toList=false:=kFK hl;have HStep:=hJ (pstep_new (c:=c) (acc:=acc) hl);have tok1:=True.intro
        go_wp2_with (first
         | (have _t:=tok1
            at_builtin
            refine kA1 kDB rfl _ _ rfl (w.heap.size+3) _ _ rfl ((HOwn.out.alloc _).alloc _) _ ⟨s,c⟩ [.string s,.int .i64 c] rfl rfl (kA3 44 (by (simp only [kAJ,kAF,Array.getElem?_push,Array.size_push];simp))) (by omega) (by unfold maxLen;omega) (by simp;omega) ?_;intro v9 w9 hown9 hb9 hk9;obtain ⟨a9,m9,c9,rfl⟩:=hown9.shape;have HX9:=hJ (((HBX.out.alloc _).alloc _).kp hk9 (HOwn.out.ne (by omega)));have z9:=HX9.out.cell 1 _ rfl;have f9:=HX9.out.fz 1;have HT9:=hJ ((((Bx.fresh wr 44 [.string t.v,.int .i64 t.c]).alloc _).kp hk9 (fun e=>absurd (HOwn.out.block e).2 (by omega))).other (a:=⟨w.heap.size+1+1,1,none⟩) (u:=.slice a9 m9 c9) (by show w.heap.size+1+1≠_;omega));have HX10:=hJ (HX9.out.set 1 (.slice a9 m9 c9));have HOwn9:=hJ (hown9.set (a:=⟨w.heap.size+1+1,1,none⟩) (.slice a9 m9 c9) (fun _ q=>q.elim) (by show w.heap.size+1+1<_;omega));have z10:=HX10.out.cell 1 _ rfl;have t0:=HT9.out.cell 0 _ rfl;have t1:=HT9.out.cell 1 _ rfl;have HB10:Hid (Below (w.heap.size+1+1) W (w9.setCell ⟨w.heap.size+1+1,1,none⟩ (.slice a9 m9 c9))):=hJ ((((HB.out.alloc (by omega) _).alloc (by simp;omega) _).trans (hb9.mono (by omega))).setCell (by show _≤w.heap.size+1+1;omega) _);clear tok1 hown9 hb9 hk9)
         | (at_builtin
            refine kA1 kDB rfl _ _ rfl (w.heap.size+3) _ _ rfl (HOwn9.out.alloc _) _ t [.string t.v,.int .i64 t.c] rfl rfl (kA3 44 (by (simp only [kAJ,kAF,Array.getElem?_push,Array.size_push];simp))) (by rw [zP];show (acc.length+1+1) * 24≤_;omega) (by unfold maxLen;rw [zP];show acc.length+1+1≤_;omega) (by have:=HB10.out.size;show _≤Array.size _;simp at *;omega) ?_;intro v11 w11 hown11 hb11 hk11;obtain ⟨a11,m11,c11,rfl⟩:=hown11.shape;have HX11:=hJ ((HX10.out.alloc _).kp hk11 (HOwn9.out.ne (by omega)));have z11:=HX11.out.cell 1 _ rfl;have f11:=HX11.out.fz 1))
        go_roundw
        case rel=>exact ⟨k+1,by omega,by go_num,by rw [HNext.out,HStep.out],hJ ⟨_,HX11.out.set 1 _,by rw [HNext.out,HStep.out];exact hown11.set _ (fun _ q=>q.elim) (by show w.heap.size+1+1<_;omega)⟩,hJ (((HB10.out.alloc (by have:=HB10.out.size;omega) _).trans (hb11.mono (by omega))).setCell (by show _≤w.heap.size+1+1;omega) _)⟩
        case measure=>simp [intOf];omega
      · have hl:Op.bytesLess s.toList t.v.toList=false:=by simpa using hl
        by_cases he:(t.v.toList==s.toList)=true
        · have hl2:Op.bytesLess t.v.toList s.toList=false:=by rw [show t.v=s from (kA6 _ _).1 he];exact bl_irrefl _
          have HStep:=hJ (pstep_eq (s:=s) (c:=c) (acc:=acc) (t:=t) false (show (!false && slt s t.v)=false from by rw [show slt s t.v=false from hl];rfl) he)
          go_wp2_with (at_builtin;refine kA1 kDB rfl _ _ rfl (w.heap.size+3) _ _ rfl ((HOwn.out.alloc _).alloc _) _ ⟨t.v,t.c+c⟩ [.string t.v,.int .i64 (t.c+c)] rfl rfl (kA3 44 (by (simp only [kAJ,kAF,Array.getElem?_push,Array.size_push];simp))) (by omega) (by unfold maxLen;omega) (by simp;omega) ?_;intro v9 w9 hown9 hb9 hk9;obtain ⟨a9,m9,c9,rfl⟩:=hown9.shape;have HX9:=hJ (((HBX.out.alloc _).alloc _).kp hk9 (HOwn.out.ne (by omega)));have z9:=HX9.out.cell 1 _ rfl;have f9:=HX9.out.fz 1)
          go_roundw
          case rel=>exact ⟨k+1,by omega,by go_num,by rw [HNext.out,HStep.out],hJ ⟨_,HX9.out.set 1 _,by rw [HNext.out,HStep.out];exact hown9.set _ (fun _ q=>q.elim) (by show w.heap.size+1+1<_;omega)⟩,hJ ((((HB.out.alloc (by omega) _).alloc (by simp;omega) _).trans (hb9.mono (by omega))).setCell (by show _≤w.heap.size+1+1;omega) _)⟩
          case measure=>simp [intOf];omega
        · have he:(t.v.toList==s.toList)=false:=by simpa using he
          have hl2:Op.bytesLess t.v.toList s.toList=true:=by
           cases q:Op.bytesLess t.v.toList s.toList with
           | true=>rfl
           | false=>exact absurd ((kA6 _ _).2 (kFJ q hl)) (by rw [show seq t.v s=false from he];decide)
          have HStep:=hJ (pstep_old (s:=s) (c:=c) (acc:=acc) (t:=t) false (show (!false && slt s t.v)=false from by rw [show slt s t.v=false from hl];rfl) he)
          go_wp2_with (at_builtin;refine kA1 kDB rfl _ _ rfl (w.heap.size+3) _ _ rfl ((HOwn.out.alloc _).alloc _) _ t [.string t.v,.int .i64 t.c] rfl rfl (kA3 44 (by (simp only [kAJ,kAF,Array.getElem?_push,Array.size_push];simp))) (by omega) (by unfold maxLen;omega) (by simp;omega) ?_;intro v9 w9 hown9 hb9 hk9;obtain ⟨a9,m9,c9,rfl⟩:=hown9.shape;have HX9:=hJ (((HBX.out.alloc _).alloc _).kp hk9 (HOwn.out.ne (by omega)));have z9:=HX9.out.cell 1 _ rfl;have f9:=HX9.out.fz 1)
          go_roundw
          case rel=>exact ⟨k+1,by omega,by go_num,by rw [HNext.out,HStep.out],hJ ⟨_,HX9.out.set 1 _,by rw [HNext.out,HStep.out];exact hown9.set _ (fun _ q=>q.elim) (by show w.heap.size+1+1<_;omega)⟩,hJ ((((HB.out.alloc (by omega) _).alloc (by simp;omega) _).trans (hb9.mono (by omega))).setCell (by show _≤w.heap.size+1+1;omega) _)⟩
          case measure=>simp [intOf];omega
    | true =>
      by_cases he:(t.v.toList==s.toList)=true
      · have HStep:=hJ (pstep_eq (s:=s) (c:=c) (acc:=acc) (t:=t) true rfl he)
        go_wp2_with (at_builtin;refine kA1 kDB rfl _ _ rfl (w.heap.size+3) _ _ rfl ((HOwn.out.alloc _).alloc _) _ ⟨t.v,t.c+c⟩ [.string t.v,.int .i64 (t.c+c)] rfl rfl (kA3 44 (by (simp only [kAJ,kAF,Array.getElem?_push,Array.size_push];simp))) (by omega) (by unfold maxLen;omega) (by simp;omega) ?_;intro v9 w9 hown9 hb9 hk9;obtain ⟨a9,m9,c9,rfl⟩:=hown9.shape;have HX9:=hJ (((HBX.out.alloc _).alloc _).kp hk9 (HOwn.out.ne (by omega)));have z9:=HX9.out.cell 1 _ rfl;have f9:=HX9.out.fz 1)
        go_roundw
        case rel=>exact ⟨k+1,by omega,by go_num,by rw [HNext.out,HStep.out],hJ ⟨_,HX9.out.set 1 _,by rw [HNext.out,HStep.out];exact hown9.set _ (fun _ q=>q.elim) (by show w.heap.size+1+1<_;omega)⟩,hJ ((((HB.out.alloc (by omega) _).alloc (by simp;omega) _).trans (hb9.mono (by omega))).setCell (by show _≤w.heap.size+1+1;omega) _)⟩
        case measure=>simp [intOf];omega
      · have he:(t.v.toList==s.toList)=false:=by simpa using he
        have HStep:=hJ (pstep_old (s:=s) (c:=c) (acc:=acc) (t:=t) true rfl he)
        go_wp2_with (at_builtin;refine kA1 kDB rfl _ _ rfl (w.heap.size+3) _ _ rfl ((HOwn.out.alloc _).alloc _) _ t [.string t.v,.int .i64 t.c] rfl rfl (kA3 44 (by (simp only [kAJ,kAF,Array.getElem?_push,Array.size_push];simp))) (by omega) (by unfold maxLen;omega) (by simp;omega) ?_;intro v9 w9 hown9 hb9 hk9;obtain ⟨a9,m9,c9,rfl⟩:=hown9.shape;have HX9:=hJ (((HBX.out.alloc _).alloc _).kp hk9 (HOwn.out.ne (by omega)));have z9:=HX9.out.cell 1 _ rfl;have f9:=HX9.out.fz 1)
        go_roundw
        case rel=>exact ⟨k+1,by omega,by go_num,by rw [HNext.out,HStep.out],hJ ⟨_,HX9.out.set 1 _,by rw [HNext.out,HStep.out];exact hown9.set _ (fun _ q=>q.elim) (by show w.heap.size+1+1<_;omega)⟩,hJ ((((HB.out.alloc (by omega) _).alloc (by simp;omega) _).trans (hb9.mono (by omega))).setCell (by show _≤w.heap.size+1+1;omega) _)⟩
        case measure=>simp [intOf];omega
  · obtain rfl:k=n:=by omega
    have HFull:=hJ (prun_full s c x.terms (k:=k) HL.out.symm);have HPos:=hJ (plusF_pos x.terms s c);have HPl:Hid (plus x.terms s c=(plusF x.terms s c).filter nzB):=hJ rfl;generalize plusF x.terms s c=F at *;generalize prun s c x.terms k=p at *;obtain ⟨put,acc⟩:=p;simp only at HOwn HLn HFull;have hln:acc.length≤k * 2:=HLn.out;cases put with
    | false =>
      go_wp2_with (at_builtin;refine kA1 kDB rfl _ _ rfl (w.heap.size+3) _ _ rfl (HOwn.out.alloc _) _ ⟨s,c⟩ [.string s,.int .i64 c] rfl rfl (kA3 44 (by (simp only [kAJ,kAF,Array.getElem?_push,Array.size_push];simp))) (by omega) (by unfold maxLen;omega) (by simp;omega) ?_;intro v9 w9 hown9 hb9 hk9;obtain ⟨a9,m9,c9,rfl⟩:=hown9.shape;have HX9:=hJ ((HBX.out.alloc _).kp hk9 (HOwn.out.ne (by omega)));have z9:=HX9.out.cell 1 _ rfl;have f9:=HX9.out.fz 1)
      have HF:F=acc++[⟨s,c⟩]:=HFull.out;have HOF:Hid (Own kA7 44 (fun _=>False) (w9.setCell ⟨w.heap.size+1+1,1,none⟩ (.slice a9 m9 c9)) (w.heap.size+3) (.slice a9 m9 c9) F):=hJ (by rw [HF];exact hown9.set _ (fun _ q=>q.elim) (by show w.heap.size+1+1<_;omega));have HX2:=hJ (HX9.out.set 1 (.slice a9 m9 c9));have HB2:Hid (Below (w.heap.size+1+1) W (w9.setCell ⟨w.heap.size+1+1,1,none⟩ (.slice a9 m9 c9))):=hJ (((HB.out.alloc (by omega) _).trans (hb9.mono (by omega))).setCell (by show _≤w.heap.size+1+1;omega) _);clear hown9 hb9 hk9 HX9 HF z1 f1;clear z9 f9;generalize Value.slice a9 m9 c9=vF at *;generalize (w9.setCell ⟨w.heap.size+1+1,1,none⟩ vF)=W2 at *;obtain ⟨gF,cF,rfl,hgF,hlF,hslF,hfF⟩:=HOF.out.open_ HPos.out;have HS0:=hJ (hslF.mono (S':=fun k=>w.heap.size+3≤k) (fun k q _=>by rcases q with q | q;exact q.elim;omega));have HFz:=hJ hfF;have hFs:=hslF.small;have hcF:=hslF.cap;clear hslF hfF HOF HOwn HLn HFull;have HPosL:=hJ HPos.out;have hF0:F.length=F.length:=rfl;generalize hFL:F.length=m at *;have HFL:=hJ hFL;clear hFL hF0
      go_wp2_with fail
      go_loopw [11,12] (fun kk i wr=>∃ i':Nat,i'≤m∧i= .int .i64 i'∧kk= .int .i64 (nzs F i').length∧Hid (Bx wr (w.heap.size+1+1) 40 [.int .i64 x.const,.slice (some ⟨gF,0,none⟩) m cF])∧Hid (∃ M,Sl kA7 (fun k=>w.heap.size+3≤k) wr (some ⟨gF,0,none⟩) m cF M∧M.take (nzs F i').length=nzs F i'∧M.drop i'=F.drop i')∧Hid (∀ j,wr.frozen? ⟨gF,j,none⟩=false)∧Hid (Below (w.heap.size+1+1) W wr)) (fun _ i _=>m - (intOf i).toNat)
      case atStart=>exact ⟨0,Nat.zero_le _,rfl,rfl,HX2,hJ ⟨F,HS0.out,rfl,rfl⟩,HFz,HB2⟩
      case round =>
       obtain ⟨i',hi',rfl,rfl,HX3,HM,HFz3,HB3⟩:=hrel;obtain ⟨M,hM1,hM2,hM3⟩:=HM.out;have HM1:=hJ hM1;have HM2:=hJ hM2;have HM3:=hJ hM3;clear HM hM1 hM2 hM3;have q1:=HX3.out.cell 1 _ rfl;have hle:=nzs_len F i';have hws3:w.heap.size+3≤wr.heap.size:=by have:=HB3.out.size;omega
       by_cases hli:i'<m
       · obtain ⟨e0,e1⟩:=HM1.out.coef i' hli
         rw [Nat.zero_add] at e0 e1;have HKF:Hid (i'<F.length):=hJ (by rw [HFL.out];exact hli);have HGet:=hJ (getD_drop HM3.out);rw [HGet.out] at e0 e1;have HNz:=hJ (nzs_next HKF.out);generalize F.getD i' default=y at *;generalize hkk:(nzs F i').length=kk at *;have HKK:=hJ hkk;clear hkk;by_cases hz:y.c=0
         · have hz2:(y.c != 0)=false:=by rw [hz];rfl
           have HN:Hid (nzs F (i'+1)=nzs F i'):=hJ (by rw [HNz.out,if_pos hz]);clear hz
           go_wp2_with fail
           go_roundw
           case rel=>exact ⟨i'+1,by omega,by go_num,by rw [HN.out,HKK.out],HX3,hJ ⟨M,HM1.out,by rw [HN.out,HKK.out];exact HM2.out,kI7 HM3.out⟩,HFz3,HB3⟩
           case measure=>simp [intOf];omega
         · have hz2:(y.c != 0)=true:=bne_iff_ne.2 hz
           have HN:Hid (nzs F (i'+1)=nzs F i'++[y]):=hJ (by rw [HNz.out,if_neg hz]);have hkm:kk<m:=by omega
           clear hz;have q1d:wr.cell? ⟨w.heap.size+1+1,1,none⟩=some (.slice (some ⟨gF,0,none⟩) m cF):=q1;have e0d:wr.cell? ⟨gF,i' * 2,none⟩=some (.string y.v):=e0;have e1d:wr.cell? ⟨gF,i' * 2+1,none⟩=some (.int .i64 y.c):=e1;obtain ⟨d0,d1⟩:=HM1.out.coef kk hkm;rw [Nat.zero_add] at d0 d1;have g0:wr.frozen? ⟨gF,kk * 2,none⟩=false:=HFz3.out _;have g1:wr.frozen? ⟨gF,kk * 2+1,none⟩=false:=HFz3.out _
           go_wp2_with fail
           go_region
           all_goals go_wp2_with fail
           all_goals go_roundw
           case rel=>exact ⟨i'+1,by omega,by go_num,by rw [HN.out,zP,HKK.out];rfl,hJ ((HX3.out.drew.other (by show gF≠_;omega)).other (by show gF≠_;omega)),hJ ⟨M.set kk y,(HM1.out.below (zB _ _).drew).setCoef kk hkm y,by rw [HN.out,zP,HKK.out];exact take_put (by rw [HM1.out.len];exact hkm) HM2.out y,by rw [List.drop_set_of_lt (by omega)];exact kI7 HM3.out⟩,hJ (fun j=>by show ((wr.setCell ⟨gF,kk * 2,none⟩ (.string y.v)).setCell ⟨gF,kk * 2+1,none⟩ (.int .i64 y.c)).frozen? ⟨gF,j,none⟩=false;rw [World.frozen?_setCell,World.frozen?_setCell];exact HFz3.out j),hJ ((HB3.out.drew.setCell (by show _≤gF;omega) _).setCell (by show _≤gF;omega) _)⟩
           case measure=>simp [intOf];omega
       · obtain rfl:i'=m:=by omega
         have HEnd:Hid (nzs F i'=plus x.terms s c):=hJ (by rw [HPl.out];unfold nzs;rw [zT (by rw [HFL.out];exact zR _)]);generalize hkk:(nzs F i').length=kk at *;have HKK:=hJ hkk;clear hkk;have f7:=HX3.out.fz 1;have HX4:=hJ (HX3.out.set 1 (.slice (some ⟨gF,0,none⟩) kk cF));have p0:=HX4.out.cell 0 _ rfl;have p1:=HX4.out.cell 1 _ rfl;have HX6:=hJ ((HB6.out.below HB3.out (by omega)).other (a:=⟨w.heap.size+1+1,1,none⟩) (u:=.slice (some ⟨gF,0,none⟩) kk cF) (by show w.heap.size+1+1≠_;omega));have f60:=HX6.out.fz 0;have f61:=HX6.out.fz 1;have r0:=HX6.out.cell 0 _ rfl;have r1:=HX6.out.cell 1 _ rfl;have HX60:=hJ ((HX6.out.set 0 (.int .i64 x.const)).set 1 (.slice (some ⟨gF,0,none⟩) kk cF));have s0:=HX60.out.cell 0 _ rfl;have s1:=HX60.out.cell 1 _ rfl
         go_wp2_with fail
         refine bodyPost_ret (v:=.agg #[.int .i64 x.const,.slice (some ⟨gF,0,none⟩) kk cF]) (by simp [results,results215,go_sem,s0,s1]) rfl ?_;refine ⟨⟨[.int .i64 x.const,.slice (some ⟨gF,0,none⟩) kk cF],rfl,⟨_,rfl,some ⟨gF,0,none⟩,cF,by rw [← HKK.out,HEnd.out],?_⟩⟩,?_⟩
         · have h1:=HM1.out.take kk (by omega)
           rw [HM2.out,HEnd.out] at h1;have h2:(plus x.terms s c).length=kk:=by rw [← HEnd.out];exact HKK.out
           show Sl kA7 _ _ _ (plus x.terms s c).length _ (plus x.terms s c)
           rw [h2];refine (h1.frame (fun k hk _=>?_)).mono (fun k hk _=>by omega);rw [kAA (by show w.heap.size+1≠k;omega),kAA (by show w.heap.size+1≠k;omega),kAA (by show w.heap.size+1+1≠k;omega)]
         · exact B0.out.trans ((((HB3.out.mono (by omega)).setCell (by show _≤w.heap.size+1+1;omega) _).setCell (by show _≤w.heap.size+1;omega) _).setCell (by show _≤w.heap.size+1;omega) _)
    | true =>
      go_wp2_with fail
      have HF:F=acc:=HFull.out;have HOF:Hid (Own kA7 44 (fun _=>False) wr (w.heap.size+3) v F):=hJ (by rw [HF];exact HOwn.out);have HX2:=HBX;have HB2:=HB;clear HF;obtain ⟨gF,cF,rfl,hgF,hlF,hslF,hfF⟩:=HOF.out.open_ HPos.out;have HS0:=hJ (hslF.mono (S':=fun k=>w.heap.size+3≤k) (fun k q _=>by rcases q with q | q;exact q.elim;omega));have HFz:=hJ hfF;have hFs:=hslF.small;have hcF:=hslF.cap;clear hslF hfF HOF HOwn HLn HFull;have HPosL:=hJ HPos.out;have hF0:F.length=F.length:=rfl;generalize hFL:F.length=m at *;have HFL:=hJ hFL;clear hFL hF0
      go_wp2_with fail
      go_loopw [11,12] (fun kk i wr=>∃ i':Nat,i'≤m∧i= .int .i64 i'∧kk= .int .i64 (nzs F i').length∧Hid (Bx wr (w.heap.size+1+1) 40 [.int .i64 x.const,.slice (some ⟨gF,0,none⟩) m cF])∧Hid (∃ M,Sl kA7 (fun k=>w.heap.size+3≤k) wr (some ⟨gF,0,none⟩) m cF M∧M.take (nzs F i').length=nzs F i'∧M.drop i'=F.drop i')∧Hid (∀ j,wr.frozen? ⟨gF,j,none⟩=false)∧Hid (Below (w.heap.size+1+1) W wr)) (fun _ i _=>m - (intOf i).toNat)
      case atStart=>exact ⟨0,Nat.zero_le _,rfl,rfl,HX2,hJ ⟨F,HS0.out,rfl,rfl⟩,HFz,HB2⟩
      case round =>
       obtain ⟨i',hi',rfl,rfl,HX3,HM,HFz3,HB3⟩:=hrel;obtain ⟨M,hM1,hM2,hM3⟩:=HM.out;have HM1:=hJ hM1;have HM2:=hJ hM2;have HM3:=hJ hM3;clear HM hM1 hM2 hM3;have q1:=HX3.out.cell 1 _ rfl;have hle:=nzs_len F i';have hws3:w.heap.size+3≤wr.heap.size:=by have:=HB3.out.size;omega
       by_cases hli:i'<m
       · obtain ⟨e0,e1⟩:=HM1.out.coef i' hli
         rw [Nat.zero_add] at e0 e1;have HKF:Hid (i'<F.length):=hJ (by rw [HFL.out];exact hli);have HGet:=hJ (getD_drop HM3.out);rw [HGet.out] at e0 e1;have HNz:=hJ (nzs_next HKF.out);generalize F.getD i' default=y at *;generalize hkk:(nzs F i').length=kk at *;have HKK:=hJ hkk;clear hkk;by_cases hz:y.c=0
         · have hz2:(y.c != 0)=false:=by rw [hz];rfl
           have HN:Hid (nzs F (i'+1)=nzs F i'):=hJ (by rw [HNz.out,if_pos hz]);clear hz
           go_wp2_with fail
           go_roundw
           case rel=>exact ⟨i'+1,by omega,by go_num,by rw [HN.out,HKK.out],HX3,hJ ⟨M,HM1.out,by rw [HN.out,HKK.out];exact HM2.out,kI7 HM3.out⟩,HFz3,HB3⟩
           case measure=>simp [intOf];omega
         · have hz2:(y.c != 0)=true:=bne_iff_ne.2 hz
           have HN:Hid (nzs F (i'+1)=nzs F i'++[y]):=hJ (by rw [HNz.out,if_neg hz]);have hkm:kk<m:=by omega
           clear hz;have q1d:wr.cell? ⟨w.heap.size+1+1,1,none⟩=some (.slice (some ⟨gF,0,none⟩) m cF):=q1;have e0d:wr.cell? ⟨gF,i' * 2,none⟩=some (.string y.v):=e0;have e1d:wr.cell? ⟨gF,i' * 2+1,none⟩=some (.int .i64 y.c):=e1;obtain ⟨d0,d1⟩:=HM1.out.coef kk hkm;rw [Nat.zero_add] at d0 d1;have g0:wr.frozen? ⟨gF,kk * 2,none⟩=false:=HFz3.out _;have g1:wr.frozen? ⟨gF,kk * 2+1,none⟩=false:=HFz3.out _
           go_wp2_with fail
           go_region
           all_goals go_wp2_with fail
           all_goals go_roundw
           case rel=>exact ⟨i'+1,by omega,by go_num,by rw [HN.out,zP,HKK.out];rfl,hJ ((HX3.out.drew.other (by show gF≠_;omega)).other (by show gF≠_;omega)),hJ ⟨M.set kk y,(HM1.out.below (zB _ _).drew).setCoef kk hkm y,by rw [HN.out,zP,HKK.out];exact take_put (by rw [HM1.out.len];exact hkm) HM2.out y,by rw [List.drop_set_of_lt (by omega)];exact kI7 HM3.out⟩,hJ (fun j=>by show ((wr.setCell ⟨gF,kk * 2,none⟩ (.string y.v)).setCell ⟨gF,kk * 2+1,none⟩ (.int .i64 y.c)).frozen? ⟨gF,j,none⟩=false;rw [World.frozen?_setCell,World.frozen?_setCell];exact HFz3.out j),hJ ((HB3.out.drew.setCell (by show _≤gF;omega) _).setCell (by show _≤gF;omega) _)⟩
           case measure=>simp [intOf];omega
       · obtain rfl:i'=m:=by omega
         have HEnd:Hid (nzs F i'=plus x.terms s c):=hJ (by rw [HPl.out];unfold nzs;rw [zT (by rw [HFL.out];exact zR _)]);generalize hkk:(nzs F i').length=kk at *;have HKK:=hJ hkk;clear hkk;have f7:=HX3.out.fz 1;have HX4:=hJ (HX3.out.set 1 (.slice (some ⟨gF,0,none⟩) kk cF));have p0:=HX4.out.cell 0 _ rfl;have p1:=HX4.out.cell 1 _ rfl;have HX6:=hJ ((HB6.out.below HB3.out (by omega)).other (a:=⟨w.heap.size+1+1,1,none⟩) (u:=.slice (some ⟨gF,0,none⟩) kk cF) (by show w.heap.size+1+1≠_;omega));have f60:=HX6.out.fz 0;have f61:=HX6.out.fz 1;have r0:=HX6.out.cell 0 _ rfl;have r1:=HX6.out.cell 1 _ rfl;have HX60:=hJ ((HX6.out.set 0 (.int .i64 x.const)).set 1 (.slice (some ⟨gF,0,none⟩) kk cF));have s0:=HX60.out.cell 0 _ rfl;have s1:=HX60.out.cell 1 _ rfl
         go_wp2_with fail
         refine bodyPost_ret (v:=.agg #[.int .i64 x.const,.slice (some ⟨gF,0,none⟩) kk cF]) (by simp [results,results215,go_sem,s0,s1]) rfl ?_;refine ⟨⟨[.int .i64 x.const,.slice (some ⟨gF,0,none⟩) kk cF],rfl,⟨_,rfl,some ⟨gF,0,none⟩,cF,by rw [← HKK.out,HEnd.out],?_⟩⟩,?_⟩
         · have h1:=HM1.out.take kk (by omega)
           rw [HM2.out,HEnd.out] at h1;have h2:(plus x.terms s c).length=kk:=by rw [← HEnd.out];exact HKK.out
           show Sl kA7 _ _ _ (plus x.terms s c).length _ (plus x.terms s c)
           rw [h2];refine (h1.frame (fun k hk _=>?_)).mono (fun k hk _=>by omega);rw [kAA (by show w.heap.size+1≠k;omega),kAA (by show w.heap.size+1≠k;omega),kAA (by show w.heap.size+1+1≠k;omega)]
         · exact B0.out.trans ((((HB3.out.mono (by omega)).setCell (by show _≤w.heap.size+1+1;omega) _).setCell (by show _≤w.heap.size+1;omega) _).setCell (by show _≤w.heap.size+1;omega) _)
theorem kIH {l0:List Bnd} {x:Lin} {j:Nat} (hj:j<x.terms.length):addAll l0 ((kAL x).take (j+1))=addV (addAll l0 ((kAL x).take j)) 1 ((kAL x).getD j default):=by
 have h:j<(kAL x).length:=by unfold kAL;rw [List.length_map];exact hj
 rw [kAU h,kCI];rfl
theorem kIJ (x:Lin):(kAL x).length=x.terms.length:=by unfold kAL;rw [List.length_map]
theorem rowV_some {s:Shp} (h:s.row.toList.isEmpty=false):rowV s=[]++[bare 2 s.row]:=by
 unfold rowV;rw [h];rfl
theorem Sl.str {S:Blk} {w:World} {b off n c:Nat} {l:List Str} (h:Sl RStr S w (some ⟨b,off,none⟩) n c l) (k:Nat) (hk:k<n):w.cell? ⟨b,off+k,none⟩=some (.string (l.getD k default)):=by
 obtain ⟨cs,hr,hc⟩:=h.cells k _ (kFA (by rw [h.len];exact hk));obtain rfl:cs=_:=hr;have:=hc 0 _ rfl
 simpa [RStr] using this
def At (a:Option Addr):Blk:=fun k=>∃ b,a=some b∧b.block=k
theorem Sl.selfStr {S:Blk} {w:World} {a:Option Addr} {n c:Nat} {l:List Str} (h:Sl RStr S w a n c l):Sl RStr (At a) w a n c l :=
 ⟨h.len,h.cap,h.max,h.nil,fun i x hx=>let ⟨b,off,cs,ha,_,hr,hc⟩:=h.at_ i x hx;⟨b,off,cs,ha,⟨_,ha,rfl⟩,hr,hc⟩⟩
theorem addV_old {l:List Bnd} {k:Int} {v:Str} (h:0≤kAW l k v):addV l k v=l:=by unfold addV;rw [if_pos h]
theorem addV_new {l:List Bnd} {k:Int} {v:Str} (h:kAW l k v<0):addV l k v=l++[bare k v]:=by unfold addV;rw [if_neg (by omega)]
theorem shape_Vars {S:Blk} {s:Shp} {cs:List Value} {w:World} (h:RShp.rd S w cs s) (hv:kAK s=true) (E:Env w) :
 Calls Tryz.prog 124 #[.agg cs.toArray] w fun e w'=>(∃ v,e= .returned v∧Own RBnd 42 (fun _=>False) w' w.heap.size v (kC3 s))∧Below w.heap.size w w':=by
 have HV:Hid (∀ W,Below w.heap.size w W→Calls Tryz.prog 120 #[.agg cs.toArray] W fun e w'=>e= .returned (.bool true)∧Below W.heap.size W w') :=
  hJ (fun W hW=>hv ▸ kDI (RShp.below h hW) (shp_sz hv) (E.below hW))
 obtain ⟨t,rfl,a,c,rfl,hs⟩:=h;have hm:=hs.small;have HS0:=hJ hs;clear hs;have hL:s.dims.length=s.dims.length:=rfl;generalize hL2:s.dims.length=n at *;have HL:=hJ hL2;clear hL hL2;obtain ⟨B0,ya,hW0⟩:=box1 w 25 [.string s.row,.slice a n c];have xa0:=box0 ya 0 _ rfl;have xa1:=box0 ya 1 _ rfl;clear ya;have HD:=hJ (kB1 hv);have HF:Hid (kC3 s=varsS s):=hJ (by unfold kC3;rw [hv];rfl);clear hv E;go_enter func124,ntmps124
 go_wp2_with fail
 refine (HV.out _ B0.out).mono ?_;rintro e w1 ⟨rfl,hb⟩;have y0:=kAE xa0 _ hb;have y1:=kAE xa1 _ hb;have HW:=hJ (B0.out.trans (hb.mono B0.out.size));have HS:=hJ (HS0.out.below HW.out);clear xa0 xa1;by_cases he:s.row.toList.isEmpty=true
 · have HO0:Hid (Own RBnd 42 (fun _=>False) w1 w1.heap.size (.slice none 0 0) (addAll (rowV s) ((s.dims.take 0).flatMap kAL))):=hJ (by
    have:rowV s=[]:=by unfold rowV;rw [he];rfl
    rw [this];exact Own.nil _ _ _ _ _)
   have hB0:Below w1.heap.size w1 w1:=zB _ _
   go_wp2_with fail
   go_loopw [3,23] (fun v i wr=>∃ (k:Nat) (v0:Value),k≤n∧i= .int .i64 k∧v0=v∧Hid (Own RBnd 42 (fun _=>False) wr w1.heap.size v (addAll (rowV s) ((s.dims.take k).flatMap kAL)))∧Below w1.heap.size w1 wr) (fun _ i _=>n - (intOf i).toNat)
   case atStart=>exact ⟨0,_,Nat.zero_le _,rfl,rfl,HO0,hB0⟩
   case round =>
    obtain ⟨k,v0,hk,rfl,rfl,HO,hB⟩:=hrel;by_cases hlt:k<n
    · obtain ⟨b,off,rfl,hbW,_⟩:=HS.out.form k hlt
      have HK:Hid (k<s.dims.length):=hJ (by rw [HL.out];exact hlt);have HX:=hJ (kBW (HD.out.2 _ (kAM HK.out)));have HNext:Hid ((s.dims.take (k+1)).flatMap kAL=(s.dims.take k).flatMap kAL++kAL (s.dims.getD k default)):=hJ (by rw [kAU HK.out,List.flatMap_append];simp)
      have HLen:Hid ((addAll (rowV s) ((s.dims.take k).flatMap kAL)).length≤100):=hJ (by
       have q1:=kBQ ((s.dims.take k).flatMap kAL) (rowV s);have q2:=kIV s;have q3:=kE2 (s.dims.take k) (fun x hx=>HD.out.2 x (List.mem_of_mem_take hx));have q4:=HD.out.1;rw [zN] at q3;omega)
      obtain ⟨t,hr,hd,c0,c1⟩:=(HS.out.below hB).lin k hlt;obtain ⟨ta,tc,rfl,hts⟩:=hd;have HT:=hJ hts;clear hr hts;generalize s.dims.getD k default=x at *;generalize hl0:addAll (rowV s) ((s.dims.take k).flatMap kAL)=l0 at *;have HL0:=hJ hl0;clear hl0;have HC:=hJ (fun (W:World) (hW:Below wr.heap.size wr W)=>kGA x ta _ tc W (HT.out.below hW) (by have:=HX.out;omega));generalize hXL:x.terms.length=m at *;have HXL:=hJ hXL;clear hXL
      go_wp2_with fail
      refine (HC.out _ ((zB _ _).alloc (zR _) _)).mono ?_;rintro e w2 ⟨⟨v2,rfl,hown2⟩,hb2⟩;obtain ⟨a2,c2,rfl,hsl2⟩:=hown2.sl;have hB2:Below w1.heap.size w1 w2:=hB.trans ((((zB _ _).alloc (zR _) _).trans (hb2.mono (by simp))).mono hB.size);have HO2:=hJ (HO.out.below (((zB _ _).alloc (zR _) _).trans (hb2.mono (by simp))));have hvl:(kAL x).length=m:=by rw [kIJ,HXL.out]
      rw [hvl] at hsl2;have HSL2:=hJ hsl2.selfStr
      have HNe:Hid (∀ k,At a2 k→v0.ownBlock≠some k):=hJ (fun k hk e=>by
       obtain ⟨b,rfl,rfl⟩:=hk;have h1:=hown2.base_le b.block (by rfl);have h2:=(HO.out.block e).2;simp at h1;omega)
      have hm2:=hsl2.small
      have HNe2:Hid (∀ k,At a2 k→k<w2.heap.size∧v0.ownBlock≠some k):=hJ (fun k hk=>⟨by
       obtain ⟨b,rfl,rfl⟩:=hk;exact (hown2.block (by rfl)).2,HNe.out k hk⟩)
      clear hsl2 hown2 hb2 HO hB c0 c1;rw [hvl];have HVL:=hJ hvl;clear hvl
      go_wp2_with fail
      go_loopw [3,30] (fun v i wr=>∃ j:Nat,j≤m∧i= .int .i64 j∧Hid (Own RBnd 42 (fun _=>False) wr w1.heap.size v (addAll l0 ((kAL x).take j)))∧Hid (Sl RStr (At a2) wr a2 m c2 (kAL x))∧Hid (∀ k,At a2 k→k<w2.heap.size∧v.ownBlock≠some k)∧Below w1.heap.size w1 wr∧w2.heap.size≤wr.heap.size) (fun _ i _=>m - (intOf i).toNat)
      case atStart=>exact ⟨0,Nat.zero_le _,rfl,HO2,HSL2,HNe2,hB2,zR _⟩
      case round =>
       obtain ⟨j,hj,rfl,HO3,HS3,HN3,hB4,hsz4⟩:=hrel;by_cases hlj:j<m
       · obtain ⟨b2,off2,rfl,hbW2,_⟩:=HS3.out.form j hlj
         have f0:=HS3.out.str j hlj;have HKj:Hid (j<x.terms.length):=hJ (by rw [HXL.out];exact hlj);have HStep:=hJ (kIH (l0:=l0) HKj.out)
         have hLen2:(addAll l0 ((kAL x).take j)).length≤1000000:=by
          have q1:=kBQ ((kAL x).take j) l0;have q2:=HLen.out;rw [zN] at q1;have q3:=HX.out;have q4:=HXL.out;omega
         obtain ⟨a3,c3,rfl,hsl3⟩:=HO3.out.sl;have HC3:=hJ (kHE _ a3 _ c3 wr hsl3 1 ((kAL x).getD j default));have HOld:=hJ (fun q=>addV_old (l:=addAll l0 ((kAL x).take j)) (k:=1) (v:=(kAL x).getD j default) q);have HNew:=hJ (fun q=>addV_new (l:=addAll l0 ((kAL x).take j)) (k:=1) (v:=(kAL x).getD j default) q);clear hsl3;generalize (kAL x).getD j default=y at *;generalize addAll l0 ((kAL x).take j)=l1 at *;generalize kAW l1 1 y=q at *;by_cases hq:q<0
         · have HNew:=hJ (HNew.out hq)
           go_wp2_with fail
           refine (HC3.out).mono ?_;rintro e w4 ⟨rfl,hb4⟩
           go_wp2_with (at_builtin;refine kA1 kCS rfl _ _ rfl w1.heap.size _ _ rfl ((HO3.out.below hb4).alloc _) _ (bare 1 y) [.int .i64 1,.string y,.int .i64 0,.slice none 0 0,.string ⟨#[]⟩,.slice none 0 0,.string ⟨#[]⟩] rfl (⟨_,_,rfl,⟨none,0,rfl,Sl.empty _ _ _⟩,⟨none,0,rfl,Sl.empty _ _ _⟩⟩) (kA3 42 (by (simp only [kAJ,kAF,Array.getElem?_push,Array.size_push];simp))) (by rw [(show l1.length=l1.length from rfl)];omega) (by unfold maxLen;rw [(show l1.length=l1.length from rfl)];omega) (by have:=hB4.size;have:=hb4.size;simp;omega) ?_;intro v9 w9 hown9 hb9 hk9)
           go_roundw
           case rel=>exact ⟨j+1,by omega,by go_num,hJ (by rw [HStep.out,HNew.out];exact hown9),hJ (((HS3.out.below hb4).below ((zB _ _).alloc (zR _) _)).frame (fun k hk hlt=>hk9.block k hlt (HN3.out k hk).2)),hJ (fun k hk=>⟨(HN3.out k hk).1,fun e=>by rcases hk9.own with q | q;rw [q] at e;exact (HN3.out k hk).2 e;rw [q] at e;have:=(HN3.out k hk).1;have h4:=hb4.size;simp at e;omega⟩),(hB4.trans ((hb4.alloc hb4.size _).mono hB4.size)).trans hb9,by have h4:=hb4.size;have h9:=hb9.size;simp at h9;omega⟩
           case measure=>simp [intOf];omega
         · have HOld:=hJ (HOld.out (by omega))
           have hq2:0≤q:=by omega
           clear hq
           go_wp2_with fail
           refine (HC3.out).mono ?_;rintro e w4 ⟨rfl,hb4⟩
           go_wp2_with fail
           go_roundw
           case rel=>exact ⟨j+1,by omega,by go_num,hJ (by rw [HStep.out,HOld.out];exact HO3.out.below hb4),hJ (HS3.out.below hb4),HN3,hB4.trans (hb4.mono hB4.size),zE hsz4 hb4.size⟩
           case measure=>simp [intOf];omega
       · have HEnd:Hid (addAll l0 ((kAL x).take j)=addAll l0 (kAL x)):=hJ (by
          rw [zT];rw [HVL.out];omega)
         go_wp2_with fail
         go_roundw
         case rel=>exact ⟨k+1,_,by omega,by go_num,rfl,hJ (by rw [HNext.out,kCI,HL0.out,← HEnd.out];exact HO3.out),hB4⟩
         case measure=>simp [intOf];omega
    · have HAll:Hid (s.dims.take k=s.dims):=hJ (zT (by rw [HL.out];omega))
      go_wp2_with fail
      go_ret;exact ⟨⟨_,rfl,by rw [HF.out];unfold varsS;have:=HO.out.lower HW.out.size;rwa [HAll.out] at this⟩,HW.out.trans (hB.mono HW.out.size)⟩
 · have he:s.row.toList.isEmpty=false:=by simpa using he
   have HR:=hJ (rowV_some he)
   go_wp2_with (at_builtin;refine kA1 kCS rfl _ _ rfl w1.heap.size _ _ rfl ((Own.nil RBnd 42 (fun _=>False) w1 w1.heap.size).alloc _) _ (bare 2 s.row) [.int .i64 2,.string s.row,.int .i64 0,.slice none 0 0,.string ⟨#[]⟩,.slice none 0 0,.string ⟨#[]⟩] rfl ⟨_,_,rfl,⟨none,0,rfl,Sl.empty _ _ _⟩,⟨none,0,rfl,Sl.empty _ _ _⟩⟩ (kA3 42 (by (simp only [kAJ,kAF,Array.getElem?_push,Array.size_push];simp))) (by decide) (by decide) (by simp) ?_;intro v9 w9 hown9 hb9 hk9;have z9:=kAE y1 _ (((zB _ _).alloc (zR _) _).trans hb9))
   have HO0:Hid (Own RBnd 42 (fun _=>False) w9 w1.heap.size v9 (addAll (rowV s) ((s.dims.take 0).flatMap kAL))):=hJ (by rw [HR.out];exact hown9);have hB0:Below w1.heap.size w1 w9:=((zB _ _).alloc (zR _) _).trans (hb9.mono (by simp));clear hown9
   go_loopw [3,23] (fun v i wr=>∃ (k:Nat) (v0:Value),k≤n∧i= .int .i64 k∧v0=v∧Hid (Own RBnd 42 (fun _=>False) wr w1.heap.size v (addAll (rowV s) ((s.dims.take k).flatMap kAL)))∧Below w1.heap.size w1 wr) (fun _ i _=>n - (intOf i).toNat)
   case atStart=>exact ⟨0,_,Nat.zero_le _,rfl,rfl,HO0,hB0⟩
   case round =>
    obtain ⟨k,v0,hk,rfl,rfl,HO,hB⟩:=hrel;by_cases hlt:k<n
    · obtain ⟨b,off,rfl,hbW,_⟩:=HS.out.form k hlt
      have HK:Hid (k<s.dims.length):=hJ (by rw [HL.out];exact hlt);have HX:=hJ (kBW (HD.out.2 _ (kAM HK.out)));have HNext:Hid ((s.dims.take (k+1)).flatMap kAL=(s.dims.take k).flatMap kAL++kAL (s.dims.getD k default)):=hJ (by rw [kAU HK.out,List.flatMap_append];simp)
      have HLen:Hid ((addAll (rowV s) ((s.dims.take k).flatMap kAL)).length≤100):=hJ (by
       have q1:=kBQ ((s.dims.take k).flatMap kAL) (rowV s);have q2:=kIV s;have q3:=kE2 (s.dims.take k) (fun x hx=>HD.out.2 x (List.mem_of_mem_take hx));have q4:=HD.out.1;rw [zN] at q3;omega)
      obtain ⟨t,hr,hd,c0,c1⟩:=(HS.out.below hB).lin k hlt;obtain ⟨ta,tc,rfl,hts⟩:=hd;have HT:=hJ hts;clear hr hts;generalize s.dims.getD k default=x at *;generalize hl0:addAll (rowV s) ((s.dims.take k).flatMap kAL)=l0 at *;have HL0:=hJ hl0;clear hl0;have HC:=hJ (fun (W:World) (hW:Below wr.heap.size wr W)=>kGA x ta _ tc W (HT.out.below hW) (by have:=HX.out;omega));generalize hXL:x.terms.length=m at *;have HXL:=hJ hXL;clear hXL
      go_wp2_with fail
      refine (HC.out _ ((zB _ _).alloc (zR _) _)).mono ?_;rintro e w2 ⟨⟨v2,rfl,hown2⟩,hb2⟩;obtain ⟨a2,c2,rfl,hsl2⟩:=hown2.sl;have hB2:Below w1.heap.size w1 w2:=hB.trans ((((zB _ _).alloc (zR _) _).trans (hb2.mono (by simp))).mono hB.size);have HO2:=hJ (HO.out.below (((zB _ _).alloc (zR _) _).trans (hb2.mono (by simp))));have hvl:(kAL x).length=m:=by rw [kIJ,HXL.out]
      rw [hvl] at hsl2;have HSL2:=hJ hsl2.selfStr
      have HNe:Hid (∀ k,At a2 k→v0.ownBlock≠some k):=hJ (fun k hk e=>by
       obtain ⟨b,rfl,rfl⟩:=hk;have h1:=hown2.base_le b.block (by rfl);have h2:=(HO.out.block e).2;simp at h1;omega)
      have hm2:=hsl2.small
      have HNe2:Hid (∀ k,At a2 k→k<w2.heap.size∧v0.ownBlock≠some k):=hJ (fun k hk=>⟨by
       obtain ⟨b,rfl,rfl⟩:=hk;exact (hown2.block (by rfl)).2,HNe.out k hk⟩)
      clear hsl2 hown2 hb2 HO hB c0 c1;rw [hvl];have HVL:=hJ hvl;clear hvl
      go_wp2_with fail
      go_loopw [3,30] (fun v i wr=>∃ j:Nat,j≤m∧i= .int .i64 j∧Hid (Own RBnd 42 (fun _=>False) wr w1.heap.size v (addAll l0 ((kAL x).take j)))∧Hid (Sl RStr (At a2) wr a2 m c2 (kAL x))∧Hid (∀ k,At a2 k→k<w2.heap.size∧v.ownBlock≠some k)∧Below w1.heap.size w1 wr∧w2.heap.size≤wr.heap.size) (fun _ i _=>m - (intOf i).toNat)
      case atStart=>exact ⟨0,Nat.zero_le _,rfl,HO2,HSL2,HNe2,hB2,zR _⟩
      case round =>
       obtain ⟨j,hj,rfl,HO3,HS3,HN3,hB4,hsz4⟩:=hrel;by_cases hlj:j<m
       · obtain ⟨b2,off2,rfl,hbW2,_⟩:=HS3.out.form j hlj
         have f0:=HS3.out.str j hlj;have HKj:Hid (j<x.terms.length):=hJ (by rw [HXL.out];exact hlj);have HStep:=hJ (kIH (l0:=l0) HKj.out)
         have hLen2:(addAll l0 ((kAL x).take j)).length≤1000000:=by
          have q1:=kBQ ((kAL x).take j) l0;have q2:=HLen.out;rw [zN] at q1;have q3:=HX.out;have q4:=HXL.out;omega
         obtain ⟨a3,c3,rfl,hsl3⟩:=HO3.out.sl;have HC3:=hJ (kHE _ a3 _ c3 wr hsl3 1 ((kAL x).getD j default));have HOld:=hJ (fun q=>addV_old (l:=addAll l0 ((kAL x).take j)) (k:=1) (v:=(kAL x).getD j default) q);have HNew:=hJ (fun q=>addV_new (l:=addAll l0 ((kAL x).take j)) (k:=1) (v:=(kAL x).getD j default) q);clear hsl3;generalize (kAL x).getD j default=y at *;generalize addAll l0 ((kAL x).take j)=l1 at *;generalize kAW l1 1 y=q at *;by_cases hq:q<0
         · have HNew:=hJ (HNew.out hq)
           go_wp2_with fail
           refine (HC3.out).mono ?_;rintro e w4 ⟨rfl,hb4⟩
           go_wp2_with (at_builtin;refine kA1 kCS rfl _ _ rfl w1.heap.size _ _ rfl ((HO3.out.below hb4).alloc _) _ (bare 1 y) [.int .i64 1,.string y,.int .i64 0,.slice none 0 0,.string ⟨#[]⟩,.slice none 0 0,.string ⟨#[]⟩] rfl (⟨_,_,rfl,⟨none,0,rfl,Sl.empty _ _ _⟩,⟨none,0,rfl,Sl.empty _ _ _⟩⟩) (kA3 42 (by (simp only [kAJ,kAF,Array.getElem?_push,Array.size_push];simp))) (by rw [(show l1.length=l1.length from rfl)];omega) (by unfold maxLen;rw [(show l1.length=l1.length from rfl)];omega) (by have:=hB4.size;have:=hb4.size;simp;omega) ?_;intro v9 w9 hown9 hb9 hk9)
           go_roundw
           case rel=>exact ⟨j+1,by omega,by go_num,hJ (by rw [HStep.out,HNew.out];exact hown9),hJ (((HS3.out.below hb4).below ((zB _ _).alloc (zR _) _)).frame (fun k hk hlt=>hk9.block k hlt (HN3.out k hk).2)),hJ (fun k hk=>⟨(HN3.out k hk).1,fun e=>by rcases hk9.own with q | q;rw [q] at e;exact (HN3.out k hk).2 e;rw [q] at e;have:=(HN3.out k hk).1;have h4:=hb4.size;simp at e;omega⟩),(hB4.trans ((hb4.alloc hb4.size _).mono hB4.size)).trans hb9,by have h4:=hb4.size;have h9:=hb9.size;simp at h9;omega⟩
           case measure=>simp [intOf];omega
         · have HOld:=hJ (HOld.out (by omega))
           have hq2:0≤q:=by omega
           clear hq
           go_wp2_with fail
           refine (HC3.out).mono ?_;rintro e w4 ⟨rfl,hb4⟩
           go_wp2_with fail
           go_roundw
           case rel=>exact ⟨j+1,by omega,by go_num,hJ (by rw [HStep.out,HOld.out];exact HO3.out.below hb4),hJ (HS3.out.below hb4),HN3,hB4.trans (hb4.mono hB4.size),zE hsz4 hb4.size⟩
           case measure=>simp [intOf];omega
       · have HEnd:Hid (addAll l0 ((kAL x).take j)=addAll l0 (kAL x)):=hJ (by
          rw [zT];rw [HVL.out];omega)
         go_wp2_with fail
         go_roundw
         case rel=>exact ⟨k+1,_,by omega,by go_num,rfl,hJ (by rw [HNext.out,kCI,HL0.out,← HEnd.out];exact HO3.out),hB4⟩
         case measure=>simp [intOf];omega
    · have HAll:Hid (s.dims.take k=s.dims):=hJ (zT (by rw [HL.out];omega))
      go_wp2_with fail
      go_ret;exact ⟨⟨_,rfl,by rw [HF.out];unfold varsS;have:=HO.out.lower HW.out.size;rwa [HAll.out] at this⟩,HW.out.trans (hB.mono HW.out.size)⟩
theorem Sl.selfCoef {S:Blk} {w:World} {a:Option Addr} {n c:Nat} {l:List Coef} (h:Sl kA7 S w a n c l):Sl kA7 (At a) w a n c l :=
 ⟨h.len,h.cap,h.max,h.nil,fun i x hx=>let ⟨b,off,cs,ha,_,hr,hc⟩:=h.at_ i x hx;⟨b,off,cs,ha,⟨_,ha,rfl⟩,hr,hc⟩⟩
theorem kH0 {a:Option Addr} {n c k:Nat} (h:At a k):(Value.slice a n c).ownBlock=some k:=by
 obtain ⟨b,rfl,rfl⟩:=h;rfl
theorem timesT_take {l:List Coef} {x:List Coef} {k:Int} {i:Nat} (h:i<x.length):kBL l (x.take (i+1)) k=plus (kBL l (x.take i) k) (x.getD i default).v (k * (x.getD i default).c):=by
 unfold kBL;rw [kAU h,List.foldl_append];rfl
theorem ref04_Times {S T:Blk} {x y:Lin} {cs ds:List Value} {w:World} (h:RLin.rd S w cs x) (h2:RLin.rd T w ds y) {n0:Nat} (hn0:n0≤12) (hok:SumOk n0 x) (hy:kAB y=true) (k:Int) (hk: -1000000≤k∧k≤1000000) :
 Calls Tryz.prog 144 #[.agg cs.toArray,.agg ds.toArray,.int .i64 k] w fun e w'=>(∃ ds,e= .returned (.agg ds.toArray)∧RLin.rd (fun k=>w.heap.size≤k) w' ds (kCJ x y k))∧Below w.heap.size w w':=by
 obtain ⟨_,rfl,ax,cx,rfl,hsx⟩:=h;obtain ⟨_,rfl,ay,cy,rfl,hsy⟩:=h2;obtain ⟨q1,q2,q3,q4,q5,q6⟩:=kAV hy;have hm:=mul_bd hk q5;have hlo:=hok.lo;have hhi:=hok.hi;have hlen:=hok.len;have HOK:=hJ hok;have HY:=hJ q3;have HK:=hJ hk;have HSX:=hJ hsx;have HSY:=hJ hsy;have hmx:=hsx.small;have hmy:=hsy.small;clear hsx hsy q1 q2 q3 q4 hok hy;generalize hnx:x.terms.length=n at *;generalize hny:y.terms.length=m at *;have HNX:=hJ hnx;have HNY:=hJ hny;have hmul1: -9223372036854775808≤k * y.const:=by omega
 have hmul2:k * y.const≤9223372036854775807:=by omega
 have hadd1: -9223372036854775808≤x.const+k * y.const:=by omega
 have hadd2:x.const+k * y.const≤9223372036854775807:=by omega
 have hw1:IntKind.i64.wrap (k * y.const)=k * y.const:=by rw [IntKind.wrap_i64];omega
 have hw2:IntKind.i64.wrap (x.const+k * y.const)=x.const+k * y.const:=by rw [IntKind.wrap_i64];omega
 clear hnx hny;obtain ⟨B0,ya,yb,yc,hW0⟩:=box3 w 40 [.int .i64 x.const,.slice ax n cx] 40 [.int .i64 y.const,.slice ay m cy] 40 [.int .i64 0,.slice none 0 0];have xa0:=box0 ya 0 _ rfl;have xa1:=box0 ya 1 _ rfl;have xb0:=box0 yb 0 _ rfl;have xb1:=box0 yb 1 _ rfl;have xc0:=box0 yc 0 _ rfl;have xc1:=box0 yc 1 _ rfl;have bka:Bx _ _ _ _:=ya;have bkb:Bx _ _ _ _:=yb;have bkc:Bx _ _ _ _:=yc;clear ya yb yc;have HB6:=hJ bkc;clear bka bkb bkc;go_enter func144,ntmps144
 go_wp2_with fail
 generalize (((w.alloc (.cells #[.int .i64 x.const,.slice ax n cx] 40)).alloc (.cells #[.int .i64 y.const,.slice ay m cy] 40)).alloc (.cells #[.int .i64 0,.slice none 0 0] 40))=W at *;have HSXW:=hJ (HSX.out.below B0.out);have HW0:=hJ hW0;have hlt0:w.heap.size<W.heap.size:=by omega
 have hlt1:w.heap.size+1<W.heap.size:=by omega
 have hlt2:w.heap.size+1+1<W.heap.size:=by omega
 clear hW0;have h0:∀ k,(Value.slice (some ⟨W.heap.size,0,none⟩) 0 0).ownBlock=some k→W.heap.size≤k:=by intro k e;simp [Value.ownBlock] at e;omega
 have h1:∀ k,(Value.slice (some ⟨W.heap.size+1,0,none⟩) 0 0).ownBlock=some k→W.heap.size≤k:=by intro k e;simp [Value.ownBlock] at e;omega
 go_region_held3 (fun w'=>w'.cell? ⟨w.heap.size,0,none⟩=some (.int .i64 x.const)∧w'.cell? ⟨w.heap.size,1,none⟩=some (.slice ax n cx)∧w'.cell? ⟨w.heap.size+1,0,none⟩=some (.int .i64 y.const)) (first | go_keep | exact ⟨e00,e01,e10⟩ | exact ⟨(World.cell?_setCell_far _ _ _ _ (by simp only [ne_eq];omega)).trans ((World.cell?_setCell_far _ _ _ _ (by simp only [ne_eq];omega)).trans e00),(World.cell?_setCell_far _ _ _ _ (by simp only [ne_eq];omega)).trans ((World.cell?_setCell_far _ _ _ _ (by simp only [ne_eq];omega)).trans e01),(World.cell?_setCell_far _ _ _ _ (by simp only [ne_eq];omega)).trans ((World.cell?_setCell_far _ _ _ _ (by simp only [ne_eq];omega)).trans e10)⟩) (first
  | (refine step_sl kDB rfl (.tmp 16) (.tmp 18) rfl W.heap.size _ [] x.terms rfl (Own.at0 kA7 _ S (by (simp only [kAJ,kAF,Array.getElem?_push,Array.size_push];simp)) (by simp)) ax _ cx rfl (HSXW.out.later (by go_grown) (by assumption)) (by simp;omega) (by unfold maxLen;simp;omega) (by simp <;> omega) ?_
     intro v4 w4 hown4 hb4 hk4;obtain ⟨a4,c4,rfl,hsl4⟩:=hown4.sl
     change Kp (.slice (some ⟨_,0,none⟩) 0 0) _ _ w4 at hk4
     have hB4:Below W.heap.size W w4:=Below.trans (by go_grown) hb4;have e00:=kAE xa0 _ hB4;have e01:=kAE xa1 _ hB4;have e10:=kAE xb0 _ hB4;have l0:w.heap.size<w4.heap.size:=by have:=hB4.size;omega
     have l1:w.heap.size+1<w4.heap.size:=by have:=hB4.size;omega
     first
     | (have HZ1:Bx w4 (W.heap.size+1) 40 [.int .i64 0,.slice none 0 0]:=(hk4.block (W.heap.size+1) (by first | (simp;done) | fail) (by first | (simp [Value.ownBlock];done) | fail)).trans (by first | ((simp only [kAJ,kAF,Array.getElem?_push,Array.size_push];simp);done) | fail)
        have u0:=HZ1.cell 0 _ rfl;have u1:=HZ1.cell 1 _ rfl;have u2:=HZ1.fz 0;have u3:=HZ1.fz 1)
     | (have HZ0:Bx w4 W.heap.size 40 [.int .i64 0,.slice none 0 0]:=(hk4.block W.heap.size (by first | (simp;done) | (simp;omega) | fail) (by first | (simp [Value.ownBlock];done) | fail)).trans (by first | ((simp only [kAJ,kAF,Array.getElem?_push,Array.size_push];simp);done) | fail)
        have u0:=HZ0.cell 0 _ rfl;have u1:=HZ0.cell 1 _ rfl;have u2:=HZ0.fz 0;have u3:=HZ0.fz 1)
     | skip))
 all_goals
  rw [List.nil_append,HNX.out] at hown4 hsl4;simp only [HNX.out,List.nil_append,hw1,hw2];have HSl4:=hJ hsl4.selfCoef;have HOwn4:=hJ hown4;have HK4:=hJ hk4;have HB4:=hJ hB4;clear hsl4 hown4 hk4 hB4 hb4 h0 h1
 all_goals first
  | (have HX:Hid (Bx ((w4.setCell ⟨W.heap.size+1,0,none⟩ (.int .i64 (x.const+k * y.const))).setCell ⟨W.heap.size+1,1,none⟩ (.slice a4 n c4)) (W.heap.size+1) 40 [.int .i64 (x.const+k * y.const),.slice a4 n c4]):=hJ ((HZ1.set 0 _).set 1 _)
     have HSl:Hid (Sl kA7 (fun q=>w.heap.size+3≤q∧q≠W.heap.size+1) ((w4.setCell ⟨W.heap.size+1,0,none⟩ (.int .i64 (x.const+k * y.const))).setCell ⟨W.heap.size+1,1,none⟩ (.slice a4 n c4)) a4 n c4 x.terms):=hJ (by
      have hne:∀ q,At a4 q→w.heap.size+3≤q∧q≠W.heap.size+1:=fun q hq=>by
       have e1:=HOwn4.out.base_le q (kH0 hq);have e2:=HW0.out;refine ⟨by omega,fun e=>?_⟩;rcases HK4.out.own with r | r
       · rw [kH0 hq] at r
         simp [Value.ownBlock] at r;omega
       · rw [kH0 hq] at r
         simp at r;omega
      refine (HSl4.out.frame fun q hq _=>?_).mono (fun q hq _=>hne q hq);rw [kAA (by have:=(hne q hq).2;show W.heap.size+1≠q;omega),kAA (by have:=(hne q hq).2;show W.heap.size+1≠q;omega)])
     have HBB:Hid (Below (w.heap.size+3) W ((w4.setCell ⟨W.heap.size+1,0,none⟩ (.int .i64 (x.const+k * y.const))).setCell ⟨W.heap.size+1,1,none⟩ (.slice a4 n c4))):=hJ (((HB4.out.mono (by have:=HW0.out;omega)).setCell (by have:=HW0.out;show _≤W.heap.size+1;omega) _).setCell (by have:=HW0.out;show _≤W.heap.size+1;omega) _);have hg:w.heap.size+3≤W.heap.size+1:=by have:=HW0.out;omega
     clear u0 u1 u2 u3 HZ1;generalize ((w4.setCell ⟨W.heap.size+1,0,none⟩ (.int .i64 (x.const+k * y.const))).setCell ⟨W.heap.size+1,1,none⟩ (.slice a4 n c4))=WX at *;generalize W.heap.size+1=g at *)
  | (have HX:Hid (Bx ((w4.setCell ⟨W.heap.size,0,none⟩ (.int .i64 (x.const+k * y.const))).setCell ⟨W.heap.size,1,none⟩ (.slice a4 n c4)) W.heap.size 40 [.int .i64 (x.const+k * y.const),.slice a4 n c4]):=hJ ((HZ0.set 0 _).set 1 _)
     have HSl:Hid (Sl kA7 (fun q=>w.heap.size+3≤q∧q≠W.heap.size) ((w4.setCell ⟨W.heap.size,0,none⟩ (.int .i64 (x.const+k * y.const))).setCell ⟨W.heap.size,1,none⟩ (.slice a4 n c4)) a4 n c4 x.terms):=hJ (by
      have hne:∀ q,At a4 q→w.heap.size+3≤q∧q≠W.heap.size:=fun q hq=>by
       have e1:=HOwn4.out.base_le q (kH0 hq);have e2:=HW0.out;refine ⟨by omega,fun e=>?_⟩;rcases HK4.out.own with r | r
       · rw [kH0 hq] at r
         simp [Value.ownBlock] at r;omega
       · rw [kH0 hq] at r
         simp at r;omega
      refine (HSl4.out.frame fun q hq _=>?_).mono (fun q hq _=>hne q hq);rw [kAA (by have:=(hne q hq).2;show W.heap.size≠q;omega),kAA (by have:=(hne q hq).2;show W.heap.size≠q;omega)])
     have HBB:Hid (Below (w.heap.size+3) W ((w4.setCell ⟨W.heap.size,0,none⟩ (.int .i64 (x.const+k * y.const))).setCell ⟨W.heap.size,1,none⟩ (.slice a4 n c4))):=hJ (((HB4.out.mono (by have:=HW0.out;omega)).setCell (by have:=HW0.out;show _≤W.heap.size;omega) _).setCell (by have:=HW0.out;show _≤W.heap.size;omega) _);have hg:w.heap.size+3≤W.heap.size:=by have:=HW0.out;omega
     clear u0 u1 u2 u3 HZ0;generalize ((w4.setCell ⟨W.heap.size,0,none⟩ (.int .i64 (x.const+k * y.const))).setCell ⟨W.heap.size,1,none⟩ (.slice a4 n c4))=WX at *;generalize W.heap.size=g at *)
  | (have HX:Hid (Bx (w4.alloc (.cells #[.int .i64 (x.const+k * y.const),.slice a4 n c4] 40)) w4.heap.size 40 [.int .i64 (x.const+k * y.const),.slice a4 n c4]):=hJ (Bx.fresh _ _ _)
     have HSl:Hid (Sl kA7 (fun q=>w.heap.size+3≤q∧q≠w4.heap.size) (w4.alloc (.cells #[.int .i64 (x.const+k * y.const),.slice a4 n c4] 40)) a4 n c4 x.terms):=hJ ((HSl4.out.below ((zB _ _).alloc (zR _) _)).mono (fun q hq _=>by
      have e1:=HOwn4.out.block (kH0 hq);have e2:=HW0.out;omega))
     have HBB:Hid (Below (w.heap.size+3) W (w4.alloc (.cells #[.int .i64 (x.const+k * y.const),.slice a4 n c4] 40))):=hJ ((HB4.out.mono (by have:=HW0.out;omega)).alloc (by have:=HW0.out;have:=HB4.out.size;omega) _);have hg:w.heap.size+3≤w4.heap.size:=by have:=HW0.out;have:=HB4.out.size;omega
     generalize (w4.alloc (.cells #[.int .i64 (x.const+k * y.const),.slice a4 n c4] 40))=WX at *;generalize w4.heap.size=g at *)
 all_goals
  clear HSl4 HOwn4 HK4 HB4 e00 e01 e10 l0 l1
  go_wp2_with fail
  go_loopw [8] (fun i wr=>∃ (j:Nat) (v:Value),j≤m∧i= .int .i64 j∧Hid (Bx wr g 40 [.int .i64 (x.const+k * y.const),v])∧Hid (SlV kA7 (fun q=>w.heap.size+3≤q∧q≠g) wr v (kBL x.terms (y.terms.take j) k))∧Hid (Below (w.heap.size+3) W wr)) (fun i _=>m - (intOf i).toNat)
  case atStart=>exact ⟨0,_,Nat.zero_le _,rfl,HX,hJ ⟨a4,c4,by show _=Value.slice a4 x.terms.length c4;rw [HNX.out],by show Sl kA7 _ _ a4 x.terms.length c4 x.terms;rw [HNX.out];exact HSl.out⟩,HBB⟩
  case round =>
   obtain ⟨j,v,hj,rfl,HX,HV,HB⟩:=hrel;have f11:wr.cell? ⟨w.heap.size+1,1,none⟩=some (.slice ay m cy):=(HB.out.cell (by show w.heap.size+1<_;omega)).trans xb1;have hgs:=HX.out.lt;have z0:=HX.out.cell 0 _ rfl;have z1:=HX.out.cell 1 _ rfl;by_cases hlt:j<m
   · obtain ⟨b,off,rfl,hbW,_⟩:=HSY.out.form j hlt
     have HBw:=hJ (B0.out.trans (HB.out.mono (by omega)));obtain ⟨c0,c1⟩:=(HSY.out.below HBw.out).coef j hlt;have HKl:Hid (j<y.terms.length):=hJ (by rw [HNY.out];exact hlt);have HStep:=hJ (timesT_take (l:=x.terms) (k:=k) HKl.out);have hc1:=mul_bd HK.out (HY.out _ (kAM HKl.out))
     have hTl:(kBL x.terms (y.terms.take j) k).length≤10000:=by
      have:=times_len (y.terms.take j) k x.terms HOK.out.srt;rw [zN,HNX.out] at this;omega
     have hTb:∀ u ∈ kBL x.terms (y.terms.take j) k,-9223372036854775808≤u.c+k * (y.terms.getD j default).c∧u.c+k * (y.terms.getD j default).c≤9223372036854775807:=fun u hu=>by
      have h1:=times_bd (y.terms.take j) k HK.out (fun t ht=>HY.out t (List.mem_of_mem_take ht)) x.terms ((n0:Int) * 12000000000000) (by omega) HOK.out.srt HOK.out.bd u hu;rw [zN] at h1;omega
     obtain ⟨av,cv,rfl,hsv⟩:=HV.out
     have HC:Hid (∀ W',Below wr.heap.size wr W'→Calls Tryz.prog 215 #[.agg #[.int .i64 (x.const+k * y.const),.slice av (kBL x.terms (y.terms.take j) k).length cv],.string (y.terms.getD j default).v,.int .i64 (k * (y.terms.getD j default).c)] W' fun e w'=>(∃ ds,e= .returned (.agg ds.toArray)∧RLin.rd (fun k=>W'.heap.size≤k) w' ds ⟨x.const+k * y.const,plus (kBL x.terms (y.terms.take j) k) (y.terms.getD j default).v (k * (y.terms.getD j default).c)⟩)∧Below W'.heap.size W' w') :=
      hJ (fun W' hW'=>ref04_Plus (x:=⟨x.const+k * y.const,kBL x.terms (y.terms.take j) k⟩) (cs:=[.int .i64 (x.const+k * y.const),.slice av (kBL x.terms (y.terms.take j) k).length cv]) ⟨_,rfl,av,cv,rfl,hsv.below hW'⟩ _ _ (zE hTl (by decide)) hTb)
     have hlen1:(kBL x.terms (y.terms.take j) k).length≤9223372036854775807:=by omega
     have hp1:IntKind.i64.wrap (k * (y.terms.getD j default).c)=k * (y.terms.getD j default).c:=by rw [IntKind.wrap_i64];omega
     have hp2: -9223372036854775808≤k * (y.terms.getD j default).c:=by omega
     have hp3:k * (y.terms.getD j default).c≤9223372036854775807:=by omega
     clear hTb hsv HV hTl hc1;generalize (kBL x.terms (y.terms.take j) k).length=L at *;generalize kBL x.terms (y.terms.take j) k=tl at *;generalize y.terms.getD j default=t at *;have hgb:g≠b:=by omega
     go_wp2_with fail
     refine wp_region_held_drew (S:=(fun w'=>w'.cell? ⟨w.heap.size+1,1,none⟩=some (.slice (some ⟨b,off,none⟩) m cy)∧w'.cell? ⟨b,off+j * 2,none⟩=some (.string t.v)∧w'.cell? ⟨b,off+j * 2+1,none⟩=some (.int .i64 t.c))) (by kernel_rfl) ⟨f11,c0,c1⟩ (fun hHeld=>?_);refine wpAnyH_take (i:=1) (v:=?_) rfl (by kernel_rfl) (by kernel_rfl) (by kernel_rfl) (fun _ _ _ h=>h) (Or.inl ⟨by rfl,?_⟩) (by assumption) ?_
     rotate_left
     · (intro w hSw;(try dsimp only at hSw);go_simp;first | done | (with_reducible rfl))
     try simp only [Act.put,List.setIfInBounds_toArray,List.set_cons_zero,List.set_cons_succ]
     refine wpAnyH_take (i:=2) (v:=?_) rfl (by kernel_rfl) (by kernel_rfl) (by kernel_rfl) (fun _ _ _ h=>h) (Or.inl ⟨by rfl,?_⟩) (by assumption) ?_
     rotate_left
     · (intro w hSw;(try dsimp only at hSw);go_simp;first | done | (with_reducible rfl))
     try simp only [Act.put,List.setIfInBounds_toArray,List.set_cons_zero,List.set_cons_succ]
     refine wpAnyH_take (i:=3) (v:=?_) rfl (by kernel_rfl) (by kernel_rfl) (by kernel_rfl) (fun _ _ _ h=>h) (Or.inl ⟨by rfl,?_⟩) (by assumption) ?_
     rotate_left
     · (intro w hSw;(try dsimp only at hSw);go_simp;first | done | (with_reducible rfl))
     try simp only [Act.put,List.setIfInBounds_toArray,List.set_cons_zero,List.set_cons_succ]
     refine wpAnyH_take (i:=4) (v:=?_) rfl (by kernel_rfl) (by kernel_rfl) (by kernel_rfl) (fun _ _ _ h=>h) (Or.inl ⟨by rfl,?_⟩) (by assumption) ?_
     rotate_left
     · (intro w hSw;(try dsimp only at hSw);go_simp;first | done | (with_reducible rfl))
     try simp only [Act.put,List.setIfInBounds_toArray,List.set_cons_zero,List.set_cons_succ]
     refine wpAnyH_take (i:=5) (v:=?_) rfl (by kernel_rfl) (by kernel_rfl) (by kernel_rfl) (fun _ _ _ h=>h) (Or.inl ⟨by rfl,?_⟩) (by assumption) ?_
     rotate_left
     · (intro w hSw;(try dsimp only at hSw);go_simp;first | done | (with_reducible rfl))
     try simp only [Act.put,List.setIfInBounds_toArray,List.set_cons_zero,List.set_cons_succ]
     refine wpAnyH_take (i:=6) (v:=?_) rfl (by kernel_rfl) (by kernel_rfl) (by kernel_rfl) (fun _ _ _ h=>h) (Or.inl ⟨by rfl,?_⟩) (by assumption) ?_
     rotate_left
     · (intro w hSw;(try dsimp only at hSw);go_simp;first | done | (with_reducible rfl))
     try simp only [Act.put,List.setIfInBounds_toArray,List.set_cons_zero,List.set_cons_succ]
     refine wpAnyH_take (i:=7) (v:=?_) rfl (by kernel_rfl) (by kernel_rfl) (by kernel_rfl) (fun _ _ _ h=>h) (Or.inl ⟨by rfl,?_⟩) (by assumption) ?_
     rotate_left
     · (intro w hSw;(try dsimp only at hSw);go_simp;first | done | (with_reducible rfl))
     try simp only [Act.put,List.setIfInBounds_toArray,List.set_cons_zero,List.set_cons_succ]
     refine wpAnyH_take (i:=8) (v:=?_) rfl (by kernel_rfl) (by kernel_rfl) (by kernel_rfl) (fun _ _ _ h=>h) (Or.inl ⟨by rfl,?_⟩) (by assumption) ?_
     rotate_left
     · (intro w hSw;(try dsimp only at hSw);go_simp;first | done | (with_reducible rfl))
     try simp only [Act.put,List.setIfInBounds_toArray,List.set_cons_zero,List.set_cons_succ]
     refine wpAnyH_take (i:=9) (v:=?_) rfl (by kernel_rfl) (by kernel_rfl) (by kernel_rfl) (fun _ _ _ h=>h) (Or.inl ⟨by rfl,?_⟩) (by assumption) ?_
     rotate_left
     · (intro w hSw;(try dsimp only at hSw);go_simp;first | done | (with_reducible rfl))
     try simp only [Act.put,List.setIfInBounds_toArray,List.set_cons_zero,List.set_cons_succ]
     refine wpAnyH_take (i:=10) (v:=?_) rfl (by kernel_rfl) (by kernel_rfl) (by kernel_rfl) (fun _ _ _ h=>h) (Or.inl ⟨by rfl,?_⟩) (by assumption) ?_
     rotate_left
     · (intro w hSw;(try dsimp only at hSw);go_simp;first | done | (with_reducible rfl))
     try simp only [Act.put,List.setIfInBounds_toArray,List.set_cons_zero,List.set_cons_succ]
     refine wpAnyH_take (i:=11) (v:=?_) rfl (by kernel_rfl) (by kernel_rfl) (by kernel_rfl) (fun _ _ _ h=>h) (Or.inl ⟨by rfl,?_⟩) (by assumption) ?_
     rotate_left
     · (intro w hSw;(try dsimp only at hSw);go_simp;first | done | (with_reducible rfl))
     try simp only [Act.put,List.setIfInBounds_toArray,List.set_cons_zero,List.set_cons_succ]
     refine wpAnyH_take (i:=12) (v:=?_) rfl (by kernel_rfl) (by kernel_rfl) (by kernel_rfl) (fun _ _ _ h=>h) (Or.inl ⟨by rfl,?_⟩) (by assumption) ?_
     rotate_left
     · (intro w hSw;(try dsimp only at hSw);go_simp;first | done | (with_reducible rfl))
     try simp only [Act.put,List.setIfInBounds_toArray,List.set_cons_zero,List.set_cons_succ]
     refine wpAnyH_take (i:=13) (v:=?_) rfl (by kernel_rfl) (by kernel_rfl) (by kernel_rfl) (fun _ _ _ h=>h) (Or.inl ⟨by rfl,?_⟩) (by assumption) ?_
     rotate_left
     · (intro w hSw;(try dsimp only at hSw);go_simp;first | done | (with_reducible rfl))
     try simp only [Act.put,List.setIfInBounds_toArray,List.set_cons_zero,List.set_cons_succ]
     refine wpAnyH_take (i:=14) (v:=?_) rfl (by kernel_rfl) (by kernel_rfl) (by kernel_rfl) (fun _ _ _ h=>h) (Or.inl ⟨by rfl,?_⟩) (by assumption) ?_
     rotate_left
     · (intro w hSw;(try dsimp only at hSw);go_simp;first | done | (with_reducible rfl))
     try simp only [Act.put,List.setIfInBounds_toArray,List.set_cons_zero,List.set_cons_succ]
     refine wpAnyH_ready (rs:=[0]) (by kernel_rfl) (by simp) ?_;refine AllReadyH.cons rfl (fun K hK=>?_) AllReadyH.nil
     go_simp
     refine hK.out _ _ ⟨f11,c0,c1⟩ (fun hHeld=>?_);clear hK K
     try simp only [Act.put,List.setIfInBounds_toArray,List.set_cons_zero,List.set_cons_succ]
     refine wpAnyH_ready (rs:=[15]) (by kernel_rfl) (by simp) ?_;refine AllReadyH.cons rfl (fun K hK=>?_) AllReadyH.nil
     go_simp
     refine (HC.out _ (by first | exact zB _ _ | exact (zB _ _).drew)).mono ?_;rintro e w5 ⟨⟨ds,rfl,hr5⟩,hb5⟩;obtain ⟨t5,rfl,a5,c5,rfl,hs5⟩:=hr5;have hb5:Below wr.heap.size wr w5:=(zB _ _).drew.trans hb5;have HX5:=hJ (HX.out.below hb5 hgs);have v0:=HX5.out.cell 0 _ rfl;have v1:=HX5.out.cell 1 _ rfl;have v2:=HX5.out.fz 0;have v3:=HX5.out.fz 1;have p0:w5.cell? ⟨w.heap.size+1,1,none⟩=some (.slice (some ⟨b,off,none⟩) m cy):=(hb5.cell (by show w.heap.size+1<wr.heap.size;omega)).trans f11;have p1:w5.cell? ⟨b,off+j * 2,none⟩=some (.string t.v):=(hb5.cell (by show b<wr.heap.size;omega)).trans c0;have p2:w5.cell? ⟨b,off+j * 2+1,none⟩=some (.int .i64 t.c):=(hb5.cell (by show b<wr.heap.size;omega)).trans c1;refine hK.out _ _ ⟨p0,p1,p2⟩ (fun hHeld=>?_);clear hK K
     try simp only [Act.put,List.setIfInBounds_toArray,List.set_cons_zero,List.set_cons_succ]
     refine wpAnyH_ready (rs:=[16]) (by kernel_rfl) (by simp) ?_;refine AllReadyH.cons rfl (fun K hK=>?_) AllReadyH.nil
     go_simp
     refine hK.out _ _ ⟨(World.cell?_setCell_far _ _ _ _ (by simp only [ne_eq];omega)).trans ((World.cell?_setCell_far _ _ _ _ (by simp only [ne_eq];omega)).trans p0),(World.cell?_setCell_far _ _ _ _ (by simp only [ne_eq];omega)).trans ((World.cell?_setCell_far _ _ _ _ (by simp only [ne_eq];omega)).trans p1),(World.cell?_setCell_far _ _ _ _ (by simp only [ne_eq];omega)).trans ((World.cell?_setCell_far _ _ _ _ (by simp only [ne_eq];omega)).trans p2)⟩ (fun hHeld=>?_);clear hK K
     try simp only [Act.put,List.setIfInBounds_toArray,List.set_cons_zero,List.set_cons_succ]
     refine wpAnyH_done (by kernel_rfl) ?_ _
     have HVN:Hid (SlV kA7 (fun q=>w.heap.size+3≤q∧q≠g) ((w5.setCell ⟨g,0,none⟩ (.int .i64 (x.const+k * y.const))).setCell ⟨g,1,none⟩ (.slice a5 (plus tl t.v (k * t.c)).length c5)) (.slice a5 (plus tl t.v (k * t.c)).length c5) (kBL x.terms (y.terms.take (j+1)) k)):=hJ (by
      rw [HStep.out];refine ⟨a5,c5,rfl,(hs5.frame fun q hq _=>?_).mono (fun q hq _=>?_)⟩
      · have hq:wr.heap.size≤q:=hq
        rw [kAA (by show g≠q;omega),kAA (by show g≠q;omega)]
      · have hq:wr.heap.size≤q:=hq
        exact ⟨by omega,by omega⟩)
     go_wp2_with fail
     go_roundw
     case rel=>exact ⟨j+1,_,by omega,by go_num,hJ ((HX5.out.set 0 _).set 1 _),HVN,hJ (((HB.out.trans (hb5.mono (by omega))).setCell (by show _≤g;omega) _).setCell (by show _≤g;omega) _)⟩
     case measure=>simp [intOf];omega
   · obtain rfl:j=m:=by omega
     have HEnd:Hid (y.terms.take j=y.terms):=hJ (zT (by rw [HNY.out];exact zR _));obtain ⟨av,cv,rfl,hsv⟩:=HV.out;have HSv:=hJ hsv;have HX6:=hJ (HB6.out.below HB.out (by omega));have f60:=HX6.out.fz 0;have f61:=HX6.out.fz 1;have r0:=HX6.out.cell 0 _ rfl;have r1:=HX6.out.cell 1 _ rfl;have HL:Hid ((kBL x.terms (y.terms.take j) k).length=(kBL x.terms (y.terms.take j) k).length):=hJ rfl;clear hsv HV;generalize hLL:(kBL x.terms (y.terms.take j) k).length=L at *;have HX60:=hJ ((HX6.out.set 0 (.int .i64 (x.const+k * y.const))).set 1 (.slice av L cv));have s0:=HX60.out.cell 0 _ rfl;have s1:=HX60.out.cell 1 _ rfl;have HLL:=hJ hLL;clear hLL
     go_wp2_with fail
     refine bodyPost_ret (v:=.agg #[.int .i64 (x.const+k * y.const),.slice av L cv]) (by simp [results,results144,go_sem,s0,s1]) rfl ?_;refine ⟨⟨[.int .i64 (x.const+k * y.const),.slice av L cv],rfl,⟨_,rfl,av,cv,by rw [← HLL.out,HEnd.out];rfl,?_⟩⟩,?_⟩
     · have h1:=HSv.out
       rw [← HLL.out,HEnd.out] at h1;refine (h1.frame fun q hq _=>?_).mono (fun q hq _=>by omega);rw [kAA (by show w.heap.size+1+1≠q;omega),kAA (by show w.heap.size+1+1≠q;omega)]
     · exact B0.out.trans (((HB.out.mono (by omega)).setCell (by show _≤w.heap.size+1+1;omega) _).setCell (by show _≤w.heap.size+1+1;omega) _)
theorem timesT_coef {l x:List Coef} {k:Int} {i:Nat} (h:i<x.length) (hs:Srt l) (v:Str):kAN (kBL l (x.take (i+1)) k) v=if seq (x.getD i default).v v then kAN (kBL l (x.take i) k) (x.getD i default).v+k * (x.getD i default).c else kAN (kBL l (x.take i) k) v:=by
 rw [timesT_take h,plus_coef (times_srt _ _ _ hs)]
 split
 · next q=>rw [(kA6 _ _).1 q]
 · omega
theorem kFW {n:Int} (hn:0≤n):∀ {l:List Coef},Bd n l→∀ v,-n≤kAN l v∧kAN l v≤n
 | [],_,v=>by unfold kAN;omega
 | t :: l,h,v=>by
   unfold kAN
   split
   · exact h t (zM ..)
   · exact kFW hn (fun u hu=>h u (zO _ hu)) v
theorem sum_add {S:Blk} {y:Lin} {cs:List Value} {w:World} (h:RLin.rd S w cs y) (hy:kAB y=true) (p bm n:Nat) (D:DataW Unit) (x:Lin) {n0:Nat} (hn0:n0≤12) (hok:SumOk n0 x) (hBx:Bx w p 126 [.int .i64 x.const,.map (some bm)]) (hM:MapF w bm n D (kAN x.terms)) (hn:n≤1000) (k:Int) (hk: -1000000≤k∧k≤1000000) (hpS:∀ q,S q→q≠p∧q≠bm) (hpb:p≠bm) :
 Calls Tryz.prog 95 #[.pointer (some ⟨p,0,none⟩),.agg cs.toArray,.int .i64 k] w fun e w'=>e= .returned (.tuple #[])∧Bx w' p 126 [.int .i64 (kCJ x y k).const,.map (some bm)]∧(∃ n' D',n'≤n+12∧MapF w' bm n' D' (kAN (kCJ x y k).terms))∧K2 p bm w w':=by
 obtain ⟨_,rfl,ay,cy,rfl,hsy⟩:=h;obtain ⟨q1,q2,q3,q4,q5,q6⟩:=kAV hy;have hm:=mul_bd hk q5;have hlo:=hok.lo;have hhi:=hok.hi;have HOK:=hJ hok;have HY:=hJ q3;have HYN:=hJ q4;have HK:=hJ hk;have HSY:=hJ hsy;have HPS:=hJ hpS;have hmy:=hsy.small;clear hsy q1 q2 q3 q4 hok hy hpS;generalize hny:y.terms.length=m at *;have HNY:=hJ hny;have hmul1: -9223372036854775808≤k * y.const:=by omega
 have hmul2:k * y.const≤9223372036854775807:=by omega
 have hadd1: -9223372036854775808≤x.const+k * y.const:=by omega
 have hadd2:x.const+k * y.const≤9223372036854775807:=by omega
 have hw1:IntKind.i64.wrap (k * y.const)=k * y.const:=by rw [IntKind.wrap_i64];omega
 have hw2:IntKind.i64.wrap (x.const+k * y.const)=x.const+k * y.const:=by rw [IntKind.wrap_i64];omega
 clear hny;obtain ⟨B0,ya,hW0⟩:=box1 w 40 [.int .i64 y.const,.slice ay m cy];have xa0:=box0 ya 0 _ rfl;have xa1:=box0 ya 1 _ rfl;have bka:Bx _ _ _ _:=ya;clear ya;have hp:=hBx.lt;have hbm:=hM.lt;have HX:=hJ (hBx.below B0.out hBx.lt);have HM:=hJ (hM.kept B0.out);clear bka hBx hM;go_enter func95,ntmps95
 go_wp2_with fail
 generalize (w.alloc (.cells #[.int .i64 y.const,.slice ay m cy] 40))=W at *;have p0:=HX.out.cell 0 _ rfl;have p1:=HX.out.cell 1 _ rfl;have f0:=HX.out.fz 0;have hne:p≠w.heap.size:=by omega
 go_region
 have HX1:Hid (Bx (W.setCell ⟨p,0,none⟩ (.int .i64 (x.const+k * y.const))).drew p 126 [.int .i64 (x.const+k * y.const),.map (some bm)]):=hJ (HX.out.set 0 _).drew;have HM1:Hid (MapF (W.setCell ⟨p,0,none⟩ (.int .i64 (x.const+k * y.const))).drew bm n D (kAN x.terms)):=hJ ((HM.out.setCell (a:=⟨p,0,none⟩) hpb _).kept (zB _ _).drew);have HK1:Hid (K2 p bm W (W.setCell ⟨p,0,none⟩ (.int .i64 (x.const+k * y.const))).drew):=hJ ((K2.set W 0 _).trans (K2.of_below (zB _ _).drew));have x1:(W.setCell ⟨p,0,none⟩ (.int .i64 (x.const+k * y.const))).cell? ⟨w.heap.size,1,none⟩=some (.slice ay m cy):=(World.cell?_setCell_far _ _ _ _ (by simp only [ne_eq];omega)).trans xa1;have x1d:(W.setCell ⟨p,0,none⟩ (.int .i64 (x.const+k * y.const))).drew.cell? ⟨w.heap.size,1,none⟩=some (.slice ay m cy):=x1;clear xa0 p0 p1 f0
 go_wp2_with fail
 generalize (W.setCell ⟨p,0,none⟩ (.int .i64 (x.const+k * y.const))).drew=W1 at *;clear x1 x1d
 go_loopw [22] (fun i wr=>∃ j:Nat,j≤m∧i= .int .i64 j∧Hid (Bx wr p 126 [.int .i64 (x.const+k * y.const),.map (some bm)])∧Hid (∃ D',MapF wr bm (n+j) D' (kAN (kBL x.terms (y.terms.take j) k)))∧Hid (K2 p bm W wr)) (fun i _=>m - (intOf i).toNat)
 case atStart=>exact ⟨0,Nat.zero_le _,rfl,HX1,hJ ⟨D,HM1.out⟩,HK1⟩
 case round =>
  obtain ⟨j,hj,rfl,HX,HMM,HK2⟩:=hrel;obtain ⟨D',hM'⟩:=HMM.out;have HM:=hJ hM';clear hM' HMM;by_cases hlt:j<m
  · obtain ⟨b,off,rfl,hbW,hSb⟩:=HSY.out.form j hlt
    have hbp:=HPS.out b hSb;obtain ⟨c0,c1⟩:=(HSY.out.below B0.out).coef j hlt;have hbl:b<W.heap.size:=by omega
    have e0:wr.cell? ⟨b,off+j * 2,none⟩=some (.string (y.terms.getD j default).v):=kCE c0 (fun _=>HK2.out.block b hbl hbp.1 hbp.2);have e1:wr.cell? ⟨b,off+j * 2+1,none⟩=some (.int .i64 (y.terms.getD j default).c):=kCE c1 (fun _=>HK2.out.block b hbl hbp.1 hbp.2);have HKl:Hid (j<y.terms.length):=hJ (by rw [HNY.out];exact hlt);have HStep:=hJ (fun v=>timesT_coef (l:=x.terms) (k:=k) HKl.out HOK.out.srt v);have hct:=HY.out _ (kAM HKl.out);have hc1:=mul_bd HK.out hct;have hnm:(y.terms.getD j default).v.size≤maxLen:=zE (kC7 (HYN.out _ (kAM HKl.out))) (by decide)
    have hTb: -9223372036854775808≤kAN (kBL x.terms (y.terms.take j) k) (y.terms.getD j default).v+k * (y.terms.getD j default).c∧kAN (kBL x.terms (y.terms.take j) k) (y.terms.getD j default).v+k * (y.terms.getD j default).c≤9223372036854775807:=by
     have h1:=kFW (by omega) (times_bd (y.terms.take j) k HK.out (fun t ht=>HY.out t (List.mem_of_mem_take ht)) x.terms ((n0:Int) * 12000000000000) (by omega) HOK.out.srt HOK.out.bd) (y.terms.getD j default).v;rw [zN] at h1;omega
    have hv1:IntKind.i64.wrap (k * (y.terms.getD j default).c)=k * (y.terms.getD j default).c:=by rw [IntKind.wrap_i64];omega
    have hv2:IntKind.i64.wrap (kAN (kBL x.terms (y.terms.take j) k) (y.terms.getD j default).v+k * (y.terms.getD j default).c)=kAN (kBL x.terms (y.terms.take j) k) (y.terms.getD j default).v+k * (y.terms.getD j default).c:=by rw [IntKind.wrap_i64];omega
    clear c0 c1 hct hc1;generalize kBL x.terms (y.terms.take j) k=tl at *;generalize y.terms.getD j default=t at *;have p1:=HX.out.cell 1 _ rfl;have hpw:=HX.out.lt
    go_wp2_with fail
    have HMx:Hid (MapF (wr.alloc (.cells #[.string t.v,.int .i64 t.c] 44)).drew bm (n+j) D' (kAN tl)):=hJ ((HM.out.kept ((zB _ _).alloc (zR _) _)).kept (zB _ _).drew);obtain ⟨w6,D6,hr6,hM6,hg6⟩:=HMx.out.put (by unfold maxLen;omega) t.v hnm (kAN tl t.v+k * t.c) hTb;have HM6:=hJ hM6;have hl6:=HMx.out.look t.v hnm;have HG6:=hJ (K2.of_grown (p:=p) hg6);have hX0:Bx (wr.alloc (.cells #[.string t.v,.int .i64 t.c] 44)).drew p 126 [.int .i64 (x.const+k * y.const),.map (some bm)]:=(HX.out.alloc _).drew;have HX6:Hid (Bx w6 p 126 [.int .i64 (x.const+k * y.const),.map (some bm)]):=hJ ((hg6.block p hX0.lt (fun e=>hpb (by cases e;rfl))).trans hX0);have hT0:Bx (wr.alloc (.cells #[.string t.v,.int .i64 t.c] 44)).drew wr.heap.size 44 [.string t.v,.int .i64 t.c]:=(Bx.fresh _ _ _).drew;have hbmw:=HM.out.lt;have HT6:Hid (Bx w6 wr.heap.size 44 [.string t.v,.int .i64 t.c]):=hJ ((hg6.block _ hT0.lt (fun e=>by cases e;omega)).trans hT0);have s1:=HX6.out.cell 1 _ rfl;have s2:=HT6.out.cell 0 _ rfl;have s3:=HT6.out.cell 1 _ rfl;clear hM6 hg6 hX0 hT0 e0 e1
    go_region_held3 (fun w'=>w'.cell? ⟨p,1,none⟩=some (.map (some bm))∧w'.cell? ⟨wr.heap.size,0,none⟩=some (.string t.v)∧w'.cell? ⟨wr.heap.size,1,none⟩=some (.int .i64 t.c)) (first | exact ⟨s1,s2,s3⟩ | go_keep) (fail)
    have HKN:Hid (K2 p bm W w6):=hJ (HK2.out.trans ((K2.of_below ((zB _ _).alloc (zR _) (.cells #[.string t.v,.int .i64 t.c] 44))).trans ((K2.of_below (zB _ _).drew).trans HG6.out)));have HMN:Hid (∃ D',MapF w6 bm (n+(j+1)) D' (kAN (kBL x.terms (y.terms.take (j+1)) k))):=hJ ⟨D6,HM6.out.own,fun s=>by rw [HStep.out s];exact HM6.out.at_ s⟩
    go_wp2_with fail
    go_roundw
    case rel=>exact ⟨j+1,by omega,by go_num,HX6,HMN,HKN⟩
    case measure=>simp [intOf];omega
  · obtain rfl:j=m:=by omega
    have HEnd:Hid (y.terms.take j=y.terms):=hJ (zT (by rw [HNY.out];exact zR _))
    go_wp2_with fail
    go_end0;exact ⟨rfl,HX.out,⟨n+j,D',by omega,by have:=HM.out;rw [HEnd.out] at this;exact this⟩,(K2.of_below B0.out).trans HK2.out⟩
open Go.RowKit Go.Maps
theorem bl_lt:∀ x y:List UInt8,Op.bytesLess x y=true ↔ x<y
 | [],[]=>by simp [Op.bytesLess]
 | [],_ :: _=>by simp [Op.bytesLess]
 | _ :: _,[]=>by simp [Op.bytesLess]
 | a :: x,b :: y=>by
   rw [List.cons_lt_cons_iff,← bl_lt x y];simp [Op.bytesLess]
def mkS (b:List UInt8):Str:=⟨b.toArray⟩
theorem mkS_list (b:List UInt8):(mkS b).toList=b:=by rw [ByteArray.toList_eq];rfl
theorem mkS_of (s:Str):mkS s.data.toList=s:=rfl
theorem slt_mkS (a b:List UInt8):slt (mkS a) (mkS b)=true ↔ a<b:=by
 unfold slt;rw [mkS_list,mkS_list];exact bl_lt a b
def kH4 (f:Str→Int) (b:List UInt8):Coef:=⟨mkS b,f (mkS b)⟩
theorem coefAt_terms (f:Str→Int) (v:Str):∀ l:List (List UInt8),kAN (l.map (kH4 f)) v=if v.data.toList ∈ l then f v else 0
 | []=>by simp [kAN]
 | b :: l=>by
   rw [List.map_cons];unfold kAN
   show (if seq (mkS b) v then f (mkS b) else kAN (l.map (kH4 f)) v)=_
   by_cases h:seq (mkS b) v=true
   · have e:=(kA6 _ _).1 h
     rw [if_pos h,e,if_pos];rw [← e];exact zM ..
   · rw [if_neg h,coefAt_terms f v l]
     have hne:v.data.toList≠b:=fun e=>h ((kA6 _ _).2 (by rw [← e];rfl))
     by_cases hm:v.data.toList ∈ l
     · rw [if_pos hm,if_pos (zO _ hm)]
     · rw [if_neg hm,if_neg (fun q=>by rcases List.mem_cons.1 q with q | q;exact hne q;exact hm q)]
theorem kIR {ss:List (List UInt8)} (h:ss.Nodup):(ss.mergeSort leB).Pairwise (fun a b=>a<b):=by
 have tr:∀ a b c:List UInt8,leB a b=true→leB b c=true→leB a c=true:=fun a b c h1 h2=>by simp only [leB,decide_eq_true_eq] at *;exact List.le_trans h1 h2
 have tot:∀ a b:List UInt8,(leB a b || leB b a)=true:=fun a b=>by simp only [leB,Bool.or_eq_true,decide_eq_true_eq];exact List.le_total a b
 have h1:=List.pairwise_mergeSort tr tot ss;have h2:(ss.mergeSort leB).Nodup:=(List.mergeSort_perm ss leB).nodup_iff.2 h;refine List.Pairwise.imp₂ (fun a b hab hne=>?_) h1 h2;simp only [leB,decide_eq_true_eq] at hab;by_cases q:a<b
 · exact q
 · exact absurd (List.le_antisymm hab (List.not_lt.1 q)) hne
theorem terms_of {x:Lin} (hs:Srt x.terms) (hn:Nz x.terms) {ss:List (List UInt8)} (hnd:ss.Nodup) (hm:∀ b,b ∈ ss ↔ kAN x.terms (mkS b)≠0):(ss.mergeSort leB).map (kH4 (kAN x.terms))=x.terms:=by
 have hmem:∀ b,b ∈ ss.mergeSort leB ↔ b ∈ ss:=fun b=>(List.mergeSort_perm ss leB).mem_iff
 refine srt_ext _ _ ?_ hs ?_ hn (fun v=>?_)
 · refine List.pairwise_map.2 ((kIR hnd).imp fun {a b} h=>?_)
   exact (slt_mkS a b).2 h
 · intro t ht
   obtain ⟨b,hb,rfl⟩:=List.mem_map.1 ht;exact (hm b).1 ((hmem b).1 hb)
 · rw [coefAt_terms]
   by_cases h:v.data.toList ∈ ss.mergeSort leB
   · rw [if_pos h]
   · rw [if_neg h]
     by_cases hz:kAN x.terms v=0
     · exact hz.symm
     · exact absurd ((hmem _).2 ((hm _).2 (by rw [mkS_of];exact hz))) h
theorem has_of_nz {D:DataW Unit} (hD:∃ es,D= .map es) {k:Lit} {c:Int} (h:D.atKey k (.lit (.int .i64 0))= .lit (.int .i64 c)) (hc:c≠0):has D k=true:=by
 obtain ⟨es,rfl⟩:=hD;rw [has_eq,List.any_eq_true];cases hf:es.find? (fun p=>p.1.sameKey k) with
 | none =>
   simp only [DataW.atKey,hf] at h
   injection h with h
   injection h with _ h
   exact absurd h.symm hc
 | some p=>exact ⟨p,List.mem_of_find?_eq_some hf,by simpa using List.find?_some hf⟩
theorem insSort_none (w:World):Calls Tryz.prog 284 #[.slice none 0 0,.int .i64 0,.int .i64 0] w fun e w'=>e= .returned (.tuple #[])∧Below w.heap.size w w':=by
 go_enter func284,ntmps284
 go_wp2_with fail
 go_loopw [6] (fun i wr=>i= .int .i64 1∧Below w.heap.size w wr) (fun _ _=>0)
 case atStart=>exact ⟨rfl,zB _ _⟩
 case round =>
  obtain ⟨rfl,hB⟩:=hrel
  go_wp2_with fail
  go_end0;exact ⟨rfl,hB⟩
theorem pdq_none (l:Int) (w:World):Calls Tryz.prog 217 #[.slice none 0 0,.int .i64 0,.int .i64 0,.int .i64 l] w fun e w'=>e= .returned (.tuple #[])∧Below w.heap.size w w':=by
 go_enter func217,ntmps217
 go_wp2_with fail
 go_loopw [1,2] (fun a b wr=>a= .int .i64 0∧b= .int .i64 0∧Below w.heap.size w wr) (fun _ _ _=>0)
 case atStart=>exact ⟨rfl,rfl,zB _ _⟩
 case round =>
  obtain ⟨rfl,rfl,hB⟩:=hrel
  go_wp2_with fail
  refine (insSort_none _).mono ?_;rintro e w1 ⟨rfl,hb⟩
  go_wp2_with fail
  refine bodyPost_ret (results_none rfl _ _ _) rfl ?_;exact ⟨rfl,hB.trans (hb.mono hB.size)⟩
theorem sort_none (w:World):Calls Tryz.prog 150 #[.slice none 0 0] w fun e w'=>e= .returned (.tuple #[])∧Below w.heap.size w w':=by
 go_enter func150,ntmps150
 go_wp2_with fail
 refine (Tryz.bits_Len 0 _ (by omega) (by omega)).mono ?_;rintro e w1 ⟨rfl,rfl⟩
 go_wp2_with fail
 refine (pdq_none _ _).mono ?_;rintro e w2 ⟨rfl,hb⟩
 go_wp2_with fail
 go_end0;exact ⟨rfl,hb⟩
open Go.RowKit Go.Maps
theorem Own.ofRow {E:TypeId} {S:Blk} {w:World} {base:Nat} {v:Value} {l:List Str} (h:w.ownsRow base E 1 v l.length (l.map Value.string)):Own RStr E S w base v l:=by
 refine ⟨⟨l.map (fun x=>[.string x]),by rw [List.length_map],?_,fun i x hx=>⟨[.string x],by rw [List.getElem?_map,hx];rfl,rfl⟩⟩⟩
 have:(l.map (fun x=>[Value.string x])).flatten=l.map Value.string:=by
  clear h
  induction l with
  | nil=>rfl
  | cons a l ih=>simp [ih]
 rw [this];exact h
theorem Own.toRow {E:TypeId} {S:Blk} {w:World} {base:Nat} {v:Value} {l:List Str} (h:Own RStr E S w base v l):w.ownsRow base E 1 v l.length (l.map Value.string):=by
 obtain ⟨css,h1,h2,h3⟩:=h.row
 have:css=l.map (fun x=>[Value.string x]):=by
  refine List.ext_getElem (by rw [List.length_map];exact h1) fun i hi hi2=>?_
  rw [List.length_map] at hi2;obtain ⟨cs,e,r⟩:=h3 i l[i] (zG hi2);obtain rfl:cs=_:=r;rw [zG hi] at e;rw [List.getElem_map];exact Option.some.inj e
 subst this
 have e:(l.map (fun x=>[Value.string x])).flatten=l.map Value.string:=by
  clear h h1 h2 h3
  induction l with
  | nil=>rfl
  | cons a l ih=>simp [ih]
 rw [e] at h2;exact h2
theorem map_enc (ss:List (List UInt8)):(ss.map mkS).map Value.string=ss.map encStr:=by rw [List.map_map];rfl
theorem size_le {w:World} {b n:Nat} {D:DataW Unit} (h:w.ownsMap Tryz.prog 9 (mapRd Tryz.prog) b n D):size D≤n:=by
 obtain ⟨es,clock,_,_,hn,rfl⟩:=h
 show ((es.toList.map _).foldr DataW.insert []).length≤n
 rw [length_sorted,List.length_map];exact hn
def nzK (x:Lin) (b:List UInt8):Bool:=kAN x.terms (mkS b) != 0
theorem strInv:∀ key kl,keyOf Tryz.prog 9 key=some kl→∃ x:List UInt8,key=encStr x:=fun key kl hk=>by obtain ⟨x,hx,_⟩:=Maps.keyOf_str underlying9 hk;exact ⟨x,hx⟩
theorem intInv:∀ v y,mapRd Tryz.prog v=some y→∃ c:Int,v= .int .i64 c:=fun v y hv=>by obtain ⟨c,rfl,_⟩:=plainElem_int_inv underlying3 hv;exact ⟨c,rfl⟩
theorem kIN {w:World} (p o bm n:Nat) {E0:TypeId} {cs0:List Value} (D:DataW Unit) (x:Lin) (hs:Srt x.terms) (hz0:Nz x.terms) (hz:szL x) (hBx:Bx w p E0 cs0) (hc0:cs0[o]? =some (.int .i64 x.const)) (hc1:cs0[o+1]? =some (.map (some bm))) (hM:MapF w bm n D (kAN x.terms)) (hn:n≤1000) (E:Env w) :
 Calls Tryz.prog 96 #[.pointer (some ⟨p,o,none⟩)] w fun e w'=>(∃ ds,e= .returned (.tuple #[.agg ds.toArray,.int .i64 (limE x)])∧RLin.rd (fun k=>w.heap.size≤k) w' ds (limL x))∧Below w.heap.size w w':=by
 have hp0:=hBx.cell o _ hc0;have hp1:=hBx.cell (o+1) _ hc1;have HC1:=hJ hc1;have hpl:=hBx.lt;have HBX:=hJ hBx;have HM:=hJ hM;have HSrt:=hJ hs;have HNz:=hJ hz0;have HZ:=hJ hz;have EE:=hJ E;clear hBx hc0 hc1 hM hs hz0 hz E;obtain ⟨B0,ya,yb,hW0⟩:=box2 w 40 [.int .i64 0,.slice none 0 0] 40 [.int .i64 x.const,.slice none 0 0];have xa0:=box0 ya 0 _ rfl;have xa1:=box0 ya 1 _ rfl;have xb0:=box0 yb 0 _ rfl;have xb1:=box0 yb 1 _ rfl;have bka:Bx _ _ _ _:=ya;have bkb:Bx _ _ _ _:=yb;clear ya yb;have HB2:=hJ bka;have HB4:=hJ bkb;have HM0:=hJ (HM.out.kept B0.out);clear xa0 xa1 xb0 xb1 bka bkb;go_enter func96,ntmps96
 go_wp2_with (first | (at_range;refine wpList_range_own _ rfl _ _ rfl 9 3 kGL underlying124 (mapRd Tryz.prog) bm n D rfl HM0.out.own ?_;intro w0 hrg0 hg0 hs0))
 have HB0:Hid (Below (w.heap.size+2) ((w.alloc (.cells #[.int .i64 0,.slice none 0 0] 40)).alloc (.cells #[.int .i64 x.const,.slice none 0 0] 40)) w0):=hJ ⟨hg0.os,hg0.tape,hg0.output,hg0.size,fun k hk=>hg0.block k (by simp;omega) (by simp)⟩;have HSz:=hJ (size_le HM0.out.own);have HM1:=hJ (HM0.out.kept ⟨hg0.os,hg0.tape,hg0.output,hg0.size,fun k hk=>hg0.block k hk (by simp)⟩);clear hg0;generalize ((w.alloc (.cells #[.int .i64 0,.slice none 0 0] 40)).alloc (.cells #[.int .i64 x.const,.slice none 0 0] 40))=W at *;have hWa:w.heap.size+2≤W.heap.size:=by omega
 have hWb:W.heap.size≤w.heap.size+2:=by omega
 clear hW0;have hbml:=HM.out.lt
 go_frame
 go_loopw [5] (fun v wr=>∃ (left:Lit→Bool) (cnt:Nat) (ss:List (List UInt8)) (v0:Value),v0=v∧wr.ranges Tryz.prog 9 (mapRd Tryz.prog) bm W.heap.size n D left cnt∧Hid (Collected D left ss)∧ss.length+cnt≤size D∧Hid (Own RStr 9 (fun _=>False) wr (w.heap.size+3) v ((ss.filter (nzK x)).map mkS))∧Hid (Below (w.heap.size+2) W wr)∧w.heap.size+3≤wr.heap.size) (fun _ wr=>wr.rangeLeft bm W.heap.size)
 case atStart=>exact ⟨_,_,[],_,rfl,hrg0,hJ (Collected.start D),by simp,hJ (Own.nil _ _ _ _ _),HB0,by omega⟩
 case round =>
  obtain ⟨left,cnt,ss,v0,rfl,hrg,HC,hcnt,HO,HB,hws⟩:=hrel;have hszn:=HSz.out
  go_wp2_with (first
   | (at_next;refine wpList_next_ranges _ rfl _ rfl 9 kGL (mapRd Tryz.prog) encStr (Value.int .i64) strInv intInv bm W.heap.size n D left cnt rfl hrg ?_ ?_))
  · intro hc0 hl0
    have HTerms:Hid (((ss.filter (nzK x)).mergeSort leB).map (kH4 (kAN x.terms))=x.terms):=hJ (by
     obtain ⟨h1,h2⟩:=HC.out;refine terms_of HSrt.out HNz.out (h1.filter _) (fun b=>?_);rw [List.mem_filter]
     constructor
     · rintro ⟨_,q⟩;simpa [nzK] using q
     · intro q
       refine ⟨(h2 b).2 ⟨has_of_nz (by obtain ⟨es,hD,_⟩:=HM.out.own.entries kGL;exact ⟨es,hD⟩) (HM.out.at_ (mkS b)) q,hl0 _⟩,by simpa [nzK] using q⟩)
    have hfl:(ss.filter (nzK x)).length≤1000:=by
     have:=List.length_filter_le (nzK x) ss;omega
    have hrow:=HO.out.toRow;rw [List.length_map,map_enc] at hrow;clear hrg HC hc0 hl0 HO;generalize ss.filter (nzK x)=Ls at *;have hML:(Ls.mergeSort leB).length=Ls.length:=List.length_mergeSort _;obtain ⟨_,⟨rfl,h0⟩ | ⟨g,cap,cur,rfl,hbase,hb,h1,h2,h3,h4⟩⟩:=hrow
    · have hLs:Ls=[]:=zL h0
      subst hLs
      go_wp2_with (go_at_call 150;refine (sort_none _).mono ?_;rintro e W5 ⟨rfl,hb5⟩;have HB5:=hJ (HB.out.trans (hb5.mono (by omega))))
      have HS5:Hid (Sl RStr (fun k=>w.heap.size+3≤k) W5 none 0 0 ((([]:List (List UInt8)).mergeSort leB).map mkS)):=hJ (by rw [List.mergeSort_nil];exact Sl.empty _ _ _);have HMl:Hid ((([]:List (List UInt8)).mergeSort leB).length=0):=hJ hML;generalize ([]:List (List UInt8)).mergeSort leB=M at *;have HXM5:=hJ (HM.out.kept (B0.out.trans (HB5.out.mono (by omega))));have HX5:=hJ (HBX.out.below (B0.out.trans (HB5.out.mono (by omega))) hpl);have HX24:=hJ (HB2.out.below HB5.out (by omega));have HX45:=hJ (HB4.out.below HB5.out (by omega));have E5:=hJ (EE.out.below (B0.out.trans (HB5.out.mono (by omega))));have hpl5:p<W5.heap.size:=HX5.out.lt;have hl45:w.heap.size+1<W5.heap.size:=HX45.out.lt;have hsm5:=HS5.out.small
      go_wp2_with fail
      go_loopw [35] (fun i wr=>∃ (k:Nat) (v:Value),k≤0∧i= .int .i64 k∧Hid (Bx wr (w.heap.size+1) 40 [.int .i64 x.const,v])∧Hid (Own kA7 44 (fun _=>False) wr W5.heap.size v ((M.take k).map (kH4 (kAN x.terms))))∧Hid (K2 (w.heap.size+1) (w.heap.size+1) W5 wr)) (fun i _=>0 - (intOf i).toNat)
      case atStart=>exact ⟨0,_,Nat.zero_le _,rfl,HX45,hJ (Own.nil _ _ _ _ _),hJ (K2.refl _ _ _)⟩
      case round =>
       obtain ⟨k,v,hk,rfl,HX,HO,HK⟩:=hrel;have hsz6:=HK.out.size;by_cases hlt:k<0
       · exact absurd hlt (by omega)
       · have HTE:Hid ((M.take k).map (kH4 (kAN x.terms))=x.terms):=hJ (by rw [zT (by rw [HMl.out];omega),HTerms.out])
         rw [HTE.out] at HO;obtain ⟨av,cv,rfl,hsv⟩:=HO.out.sl;have HBw:Hid (Below w.heap.size w wr):=hJ (B0.out.trans ((HB5.out.mono (by omega)).trans ((HK.out.below (B:=w.heap.size) (by omega) (by omega) (by omega)))));have HCV:=hJ (kCM x av _ cv wr hsv HZ.out (EE.out.below HBw.out));have z0:=HX.out.cell 0 _ rfl;have z1:=HX.out.cell 1 _ rfl;have HX2w:=hJ (HK.out.bx HX24.out (by omega) (by omega));have HSv:=hJ hsv;have hl2:w.heap.size<wr.heap.size:=HX2w.out.lt;have HL1:Hid (limL x=if kAB x then x else ⟨0,[]⟩):=hJ rfl;have HL2:Hid (limE x=if kAB x then 0 else 3):=hJ rfl;clear hsv HO;by_cases hv:kAB x=true
         · rw [hv] at HCV
           have HL1:Hid (limL x=x):=hJ (by rw [HL1.out,hv];rfl);have HL2:Hid (limE x=0):=hJ (by rw [HL2.out,hv];rfl);clear hv
           go_wp2_with fail
           refine (HCV.out).mono ?_;rintro e w7 ⟨rfl,hb7⟩;have HX27:=hJ (HX2w.out.below hb7 hl2);have HX47:=hJ (HX.out.below hb7 HX.out.lt);have k0:=HX47.out.cell 0 _ rfl;have k1:=HX47.out.cell 1 _ rfl;have u0:=HX27.out.cell 0 _ rfl;have u1:=HX27.out.cell 1 _ rfl;have u2:=HX27.out.fz 0;have u3:=HX27.out.fz 1;have HX60:=hJ ((HX27.out.set 0 (.int .i64 x.const)).set 1 (.slice av x.terms.length cv));have s0:=HX60.out.cell 0 _ rfl;have s1:=HX60.out.cell 1 _ rfl
           go_wp2_with fail
           refine bodyPost_ret (v:=.tuple #[.agg #[.int .i64 x.const,.slice av x.terms.length cv],.int .i64 0]) (by simp [results,results96,go_sem,s0,s1]) rfl ?_;refine ⟨⟨[.int .i64 x.const,.slice av x.terms.length cv],by rw [HL2.out],?_⟩,?_⟩
           · rw [HL1.out]
             refine ⟨_,rfl,av,cv,rfl,?_⟩;refine ((HSv.out.below hb7).frame fun q hq _=>?_).mono (fun q hq _=>by rcases hq with hq | hq;exact hq.elim;omega);have hq2:W5.heap.size≤q:=by rcases hq with hq | hq;exact hq.elim;exact hq
             rw [kAA (by show w.heap.size≠q;omega),kAA (by show w.heap.size≠q;omega)]
           · exact ((HBw.out.trans (hb7.mono (by omega))).setCell (zR _) _).setCell (zR _) _
         · have hv:kAB x=false:=by simpa using hv
           rw [hv] at HCV;have HL1:Hid (limL x=⟨0,[]⟩):=hJ (by rw [HL1.out,hv];rfl);have HL2:Hid (limE x=3):=hJ (by rw [HL2.out,hv];rfl);clear hv
           go_wp2_with fail
           refine (HCV.out).mono ?_;rintro e w7 ⟨rfl,hb7⟩;have HX27:=hJ (HX2w.out.below hb7 hl2);have u0:=HX27.out.cell 0 _ rfl;have u1:=HX27.out.cell 1 _ rfl;have u2:=HX27.out.fz 0;have u3:=HX27.out.fz 1;have HX60:=hJ ((HX27.out.set 0 (.int .i64 0)).set 1 (.slice none 0 0));have s0:=HX60.out.cell 0 _ rfl;have s1:=HX60.out.cell 1 _ rfl
           go_wp2_with fail
           refine bodyPost_ret (v:=.tuple #[.agg #[.int .i64 0,.slice none 0 0],.int .i64 3]) (by simp [results,results96,go_sem,s0,s1]) rfl ?_;refine ⟨⟨[.int .i64 0,.slice none 0 0],by rw [HL2.out],by rw [HL1.out];exact RLin.zero _ _⟩,((HBw.out.trans (hb7.mono (by omega))).setCell (zR _) _).setCell (zR _) _⟩
    · have hH:Go.Sort.Holds encStr wr g 0 Ls.toArray:=holds_of_block hb (by simpa using h4)
      have hgl:g<wr.heap.size:=(Array.getElem?_eq_some_iff.1 hb).1;have hcs:=hJ (Tryz.slices_Sort_string g 0 cap Ls wr hH hgl (by omega))
      go_wp2_with (go_at_call 150;refine hcs.out.mono ?_;rintro e W5 ⟨rfl,nn,os,hW5⟩;have HW5:=hJ hW5;clear hW5)
      have HR5:=ownsRow_sorted (n:=nn) (os:=os) (cap:=cap) (ts:=Ls.mergeSort leB) (ss:=Ls) hML hbase hb h1 h2 h3;have hg5:wr.grownBy W5 (some g):=by rw [HW5.out];exact grownBy_sorted _
      have HB5:Hid (Below (w.heap.size+2) W W5):=hJ (HB.out.trans ⟨hg5.os,hg5.tape,hg5.output,hg5.size,fun k hk=>hg5.block k (by omega) (fun e=>by cases e;omega)⟩)
      have HO5:Hid (Own RStr 9 (fun _=>False) W5 (w.heap.size+3) (.slice (some ⟨g,0,none⟩) Ls.length cap) ((Ls.mergeSort leB).map mkS)):=hJ (Own.ofRow (by
       rw [map_enc,List.length_map,hML,HW5.out];exact HR5))
      have HS5:Hid (Sl RStr (fun k=>w.heap.size+3≤k) W5 (some ⟨g,0,none⟩) Ls.length cap ((Ls.mergeSort leB).map mkS)):=hJ (by
       obtain ⟨a5,c5,e5,hs5⟩:=HO5.out.sl;rw [Value.slice.injEq] at e5;obtain ⟨rfl,e6,rfl⟩:=e5;rw [← e6] at hs5;exact hs5.mono (fun k hk _=>by rcases hk with hk | hk;exact hk.elim;exact hk))
      have HMl:Hid ((Ls.mergeSort leB).length=Ls.length):=hJ hML;clear HR5 hg5 HW5 hH hcs h3 h4 hb hML;generalize Ls.mergeSort leB=M at *;have HXM5:=hJ (HM.out.kept (B0.out.trans (HB5.out.mono (by omega))));have HX5:=hJ (HBX.out.below (B0.out.trans (HB5.out.mono (by omega))) hpl);have HX24:=hJ (HB2.out.below HB5.out (by omega));have HX45:=hJ (HB4.out.below HB5.out (by omega));have E5:=hJ (EE.out.below (B0.out.trans (HB5.out.mono (by omega))));have hpl5:p<W5.heap.size:=HX5.out.lt;have hl45:w.heap.size+1<W5.heap.size:=HX45.out.lt;have hsm5:=HS5.out.small
      go_wp2_with fail
      go_loopw [35] (fun i wr=>∃ (k:Nat) (v:Value),k≤Ls.length∧i= .int .i64 k∧Hid (Bx wr (w.heap.size+1) 40 [.int .i64 x.const,v])∧Hid (Own kA7 44 (fun _=>False) wr W5.heap.size v ((M.take k).map (kH4 (kAN x.terms))))∧Hid (K2 (w.heap.size+1) (w.heap.size+1) W5 wr)) (fun i _=>Ls.length - (intOf i).toNat)
      case atStart=>exact ⟨0,_,Nat.zero_le _,rfl,HX45,hJ (Own.nil _ _ _ _ _),hJ (K2.refl _ _ _)⟩
      case round =>
       obtain ⟨k,v,hk,rfl,HX,HO,HK⟩:=hrel;have hsz6:=HK.out.size;by_cases hlt:k<Ls.length
       · obtain ⟨b,off,ha5,hbW,hSb⟩:=HS5.out.form k hlt
         cases ha5;have f0:=HS5.out.str k hlt;have f1:wr.cell? ⟨g,0+k,none⟩=some (.string ((M.map mkS).getD k default)):=kCE f0 (fun _=>HK.out.block g hbW (by omega) (by omega));rw [Nat.zero_add] at f1;have hkM:k<M.length:=by rw [HMl.out];exact hlt
         have hgd:(M.map mkS).getD k default=mkS (M.getD k default):=by
          rw [zD,List.getElem?_map,zG hkM,zD,zG hkM];rfl
         rw [hgd] at f1;have HNext:Hid ((M.take (k+1)).map (kH4 (kAN x.terms))=(M.take k).map (kH4 (kAN x.terms))++[⟨mkS (M.getD k default),kAN x.terms (mkS (M.getD k default))⟩]):=hJ (by rw [kAU hkM,List.map_append];rfl);have hlenk:((M.take k).map (kH4 (kAN x.terms))).length≤1000:=by rw [List.length_map,zN];omega
         have HMk:Hid (MapF wr bm n D (kAN x.terms)):=hJ ⟨by
          obtain ⟨es,clock,h1,h2⟩:=HXM5.out.own;exact ⟨es,clock,(HK.out.block bm HXM5.out.lt (by omega) (by omega)).trans h1,h2⟩,HXM5.out.at_⟩
         have HXp:Hid (Bx wr p E0 cs0):=hJ (HK.out.bx HX5.out (by omega) (by omega));have p1:=HXp.out.cell (o+1) _ HC1.out;have z1:=HX.out.cell 1 _ rfl;have zf:=HX.out.fz 1;have hlw:w.heap.size+1<wr.heap.size:=by omega
         have hpw:p<wr.heap.size:=by omega
         have hlk:(Instr.lookup 124 (.map (some bm)) (.string (mkS (M.getD k default))) false).run Tryz.prog wr.drew= .ok (.int .i64 (kAN x.terms (mkS (M.getD k default)))) wr.drew:=(HMk.out.kept (zB _ _).drew).look _ (by
          have h1:kH4 (kAN x.terms) (M.getD k default) ∈ M.map (kH4 (kAN x.terms)):=List.mem_map.2 ⟨_,kAM hkM,rfl⟩;rw [HTerms.out] at h1;exact zE (HZ.out _ h1) (by decide))
         clear f0 hgd hkM;generalize mkS (M.getD k default)=nm at *;generalize kAN x.terms nm=cc at *;generalize (M.take k).map (kH4 (kAN x.terms))=tl at *
         go_wp2_with fail
         go_region_law (first
          | (refine kEW kDB rfl (.tmp 40) (.tmp 49) rfl W5.heap.size v tl rfl ((HO.out.drew).alloc _) _ ⟨nm,cc⟩ [.string nm,.int .i64 cc] rfl rfl (kA3 44 (by (simp only [kAJ,kAF,Array.getElem?_push,Array.size_push];simp))) (by omega) (by unfold maxLen;omega) (by simp <;> omega) ?_
             intro v9 w9 hown9 hb9 hk9;obtain ⟨a9,m9,c9,rfl⟩:=hown9.shape
             change Kp v _ _ w9 at hk9
             have HX9:=hJ (((HX.out.drew).alloc _).kp hk9 (HO.out.ne (by omega)));have HP9:=hJ (((HXp.out.drew).alloc _).kp hk9 (HO.out.ne (by omega)));have s1:=HP9.out.cell (o+1) _ HC1.out;have s2:=HX9.out.cell 1 _ rfl;have s3:=HX9.out.fz 1))
         all_goals
          have HKN:Hid (K2 (w.heap.size+1) (w.heap.size+1) W5 (w9.setCell ⟨w.heap.size+1,1,none⟩ (.slice a9 m9 c9))):=hJ ⟨hb9.os.trans HK.out.os,hb9.tape.trans HK.out.tape,hb9.output.trans HK.out.output,by
           have h1:=hb9.size;simp at h1 ⊢;omega,fun k hk h1 _=>(kAA (fun e=>h1 e.symm)).trans ((hb9.block k hk).trans ((by show (wr.heap.push _)[k]? =wr.heap[k]?;rw [Array.getElem?_push,if_neg (by omega)]:(wr.drew.alloc _).heap[k]? =wr.heap[k]?).trans (HK.out.block k hk h1 h1)))⟩
          have HON:Hid (Own kA7 44 (fun _=>False) (w9.setCell ⟨w.heap.size+1,1,none⟩ (.slice a9 m9 c9)) W5.heap.size (.slice a9 m9 c9) ((M.take (k+1)).map (kH4 (kAN x.terms)))):=hJ (by rw [HNext.out];exact hown9.set _ (fun _ q=>q.elim) (by show w.heap.size+1<_;omega))
          go_wp2_with fail
          go_roundw
          case rel=>exact ⟨k+1,_,by omega,by go_num,hJ (HX9.out.set 1 _),HON,HKN⟩
          case measure=>simp [intOf];omega
       · have HTE:Hid ((M.take k).map (kH4 (kAN x.terms))=x.terms):=hJ (by rw [zT (by rw [HMl.out];omega),HTerms.out])
         rw [HTE.out] at HO;obtain ⟨av,cv,rfl,hsv⟩:=HO.out.sl;have HBw:Hid (Below w.heap.size w wr):=hJ (B0.out.trans ((HB5.out.mono (by omega)).trans ((HK.out.below (B:=w.heap.size) (by omega) (by omega) (by omega)))));have HCV:=hJ (kCM x av _ cv wr hsv HZ.out (EE.out.below HBw.out));have z0:=HX.out.cell 0 _ rfl;have z1:=HX.out.cell 1 _ rfl;have HX2w:=hJ (HK.out.bx HX24.out (by omega) (by omega));have HSv:=hJ hsv;have hl2:w.heap.size<wr.heap.size:=HX2w.out.lt;have HL1:Hid (limL x=if kAB x then x else ⟨0,[]⟩):=hJ rfl;have HL2:Hid (limE x=if kAB x then 0 else 3):=hJ rfl;clear hsv HO;by_cases hv:kAB x=true
         · rw [hv] at HCV
           have HL1:Hid (limL x=x):=hJ (by rw [HL1.out,hv];rfl);have HL2:Hid (limE x=0):=hJ (by rw [HL2.out,hv];rfl);clear hv
           go_wp2_with fail
           refine (HCV.out).mono ?_;rintro e w7 ⟨rfl,hb7⟩;have HX27:=hJ (HX2w.out.below hb7 hl2);have HX47:=hJ (HX.out.below hb7 HX.out.lt);have k0:=HX47.out.cell 0 _ rfl;have k1:=HX47.out.cell 1 _ rfl;have u0:=HX27.out.cell 0 _ rfl;have u1:=HX27.out.cell 1 _ rfl;have u2:=HX27.out.fz 0;have u3:=HX27.out.fz 1;have HX60:=hJ ((HX27.out.set 0 (.int .i64 x.const)).set 1 (.slice av x.terms.length cv));have s0:=HX60.out.cell 0 _ rfl;have s1:=HX60.out.cell 1 _ rfl
           go_wp2_with fail
           refine bodyPost_ret (v:=.tuple #[.agg #[.int .i64 x.const,.slice av x.terms.length cv],.int .i64 0]) (by simp [results,results96,go_sem,s0,s1]) rfl ?_;refine ⟨⟨[.int .i64 x.const,.slice av x.terms.length cv],by rw [HL2.out],?_⟩,?_⟩
           · rw [HL1.out]
             refine ⟨_,rfl,av,cv,rfl,?_⟩;refine ((HSv.out.below hb7).frame fun q hq _=>?_).mono (fun q hq _=>by rcases hq with hq | hq;exact hq.elim;omega);have hq2:W5.heap.size≤q:=by rcases hq with hq | hq;exact hq.elim;exact hq
             rw [kAA (by show w.heap.size≠q;omega),kAA (by show w.heap.size≠q;omega)]
           · exact ((HBw.out.trans (hb7.mono (by omega))).setCell (zR _) _).setCell (zR _) _
         · have hv:kAB x=false:=by simpa using hv
           rw [hv] at HCV;have HL1:Hid (limL x=⟨0,[]⟩):=hJ (by rw [HL1.out,hv];rfl);have HL2:Hid (limE x=3):=hJ (by rw [HL2.out,hv];rfl);clear hv
           go_wp2_with fail
           refine (HCV.out).mono ?_;rintro e w7 ⟨rfl,hb7⟩;have HX27:=hJ (HX2w.out.below hb7 hl2);have u0:=HX27.out.cell 0 _ rfl;have u1:=HX27.out.cell 1 _ rfl;have u2:=HX27.out.fz 0;have u3:=HX27.out.fz 1;have HX60:=hJ ((HX27.out.set 0 (.int .i64 0)).set 1 (.slice none 0 0));have s0:=HX60.out.cell 0 _ rfl;have s1:=HX60.out.cell 1 _ rfl
           go_wp2_with fail
           refine bodyPost_ret (v:=.tuple #[.agg #[.int .i64 0,.slice none 0 0],.int .i64 3]) (by simp [results,results96,go_sem,s0,s1]) rfl ?_;refine ⟨⟨[.int .i64 0,.slice none 0 0],by rw [HL2.out],by rw [HL1.out];exact RLin.zero _ _⟩,((HBw.out.trans (hb7.mono (by omega))).setCell (zR _) _).setCell (zR _) _⟩
  · intro x1 c kl yd yp w2 cnt2 hkey hlk hv hat hrg2 hlt hg2 hs2 hen
    obtain ⟨x',ex,rfl,_⟩:=Maps.keyOf_str underlying9 hkey;obtain rfl:x1=x':=encStr_inj ex;have hws2:w.heap.size+3≤w2.heap.size:=by omega
    have hcv:c=kAN x.terms (mkS x1):=by
     have h1:=HM.out.at_ (mkS x1);have h2:=hat (.lit (.int .i64 0));obtain ⟨a0,e0,e2⟩:=plainElem_int_inv underlying3 hv;cases e0;obtain ⟨e2,_⟩:=e2
     injection e2 with e3 e4
     subst e3;rw [show (mkS x1).data.toList=x1 from rfl] at h1;rw [h1] at h2
     injection h2 with h2
     injection h2 with _ h2
     exact h2.symm
    have HC2:=hJ (HC.out.step hlk hat)
    have HO2:=hJ (HO.out.frame (w':=w2) (fun k hk q=>hg2.block k hk (fun e=>by
     rcases q with q | q
     · exact q.elim
     · have:=HO.out.base_le k q
       cases e;omega)) hg2.size)
    have HB2b:Hid (Below (w.heap.size+2) W w2):=hJ (HB.out.trans ⟨hg2.os,hg2.tape,hg2.output,hg2.size,fun k hk=>hg2.block k (by omega) (fun e=>by cases e;omega)⟩);have hm2:w2.rangeLeft bm W.heap.size<wr.rangeLeft bm W.heap.size:=by rw [hrg2.left_eq,hrg.left_eq];exact hlt
    clear hs2 hkey hv hat hg2 ex;by_cases hz:c=0
    · have hz2:(c != 0)=false:=by rw [hz];rfl
      have HF:Hid ((ss++[x1]).filter (nzK x)=ss.filter (nzK x)):=hJ (by
       rw [List.filter_append,List.filter_cons_of_neg (by unfold nzK;rw [← hcv,hz];decide)];simp)
      clear hz
      go_wp2_with fail
      go_roundw
      case rel=>exact ⟨_,cnt2,ss++[x1],_,rfl,hrg2,HC2,by rw [zP];simp;omega,by rw [HF.out];exact HO2,HB2b,hws2⟩
      case measure=>exact hm2
    · have hz2:(c != 0)=true:=bne_iff_ne.2 hz
      have HF:Hid ((ss++[x1]).filter (nzK x)=ss.filter (nzK x)++[x1]):=hJ (by
       rw [List.filter_append,List.filter_cons_of_pos (by unfold nzK;rw [← hcv];exact hz2)];simp)
      have hfl:((ss.filter (nzK x)).map mkS).length≤1000:=by
       have:=List.length_filter_le (nzK x) ss;rw [List.length_map];omega
      clear hz
      go_wp2_with (at_builtin;refine kA1 kEO rfl _ _ rfl (w.heap.size+3) _ _ rfl (HO2.out.alloc _) _ (mkS x1) [encStr x1] rfl rfl (kA3 9 (by (simp only [kAJ,kAF,Array.getElem?_push,Array.size_push];simp))) (by omega) (by unfold maxLen;omega) (by simp;omega) ?_;intro v9 w9 hown9 hb9 hk9;go_frame)
      change Kp v0 _ _ w9 at hk9
      have hg9:w2.grownBy w9 v0.ownBlock:=⟨hb9.os,hb9.tape,hb9.output,by have:=hb9.size;simp at this;omega,fun k hk hne=>(hk9.block k (by simp;omega) (fun e=>hne (by rw [e]))).trans (by show (w2.heap.push _)[k]? =_;rw [Array.getElem?_push,if_neg (by omega)])⟩
      have hnr:∀ q,q<w.heap.size+3→some q≠v0.ownBlock:=fun q hq e=>by have:=HO.out.base_le q e.symm;omega
      have hrg9:=hrg2.kept hg9 (hnr _ (by omega)) (hnr _ (by omega));have HO9:Hid (Own RStr 9 (fun _=>False) w9 (w.heap.size+3) v9 (((ss++[x1]).filter (nzK x)).map mkS)):=hJ (by rw [HF.out,List.map_append];exact hown9);have HB9:Hid (Below (w.heap.size+2) W w9):=hJ ((HB2b.out.alloc (by omega) _).trans (hb9.mono (by omega)));go_roundw
      case rel=>exact ⟨_,cnt2,ss++[x1],_,rfl,hrg9,HC2,by rw [zP];simp;omega,HO9,HB9,by have:=hb9.size;simp at this;omega⟩
      case measure=>rw [hrg9.left_eq,hrg.left_eq];exact hlt
theorem sum_result {w:World} (p bm n:Nat) (D:DataW Unit) (x:Lin) (hs:Srt x.terms) (hz0:Nz x.terms) (hz:szL x) (hBx:Bx w p 126 [.int .i64 x.const,.map (some bm)]) (hM:MapF w bm n D (kAN x.terms)) (hn:n≤1000) (E:Env w) :
 Calls Tryz.prog 96 #[.pointer (some ⟨p,0,none⟩)] w fun e w'=>(∃ ds,e= .returned (.tuple #[.agg ds.toArray,.int .i64 (limE x)])∧RLin.rd (fun k=>w.heap.size≤k) w' ds (limL x))∧Below w.heap.size w w' :=
 kIN p 0 bm n D x hs hz0 hz hBx rfl rfl hM hn E
open Go.RowKit Go.Maps
theorem linear_Subst_1 {S:Blk} {x:Bnd} {cs:List Value} {w:World} (h:RBnd.rd S w cs x) (name:Str) (p:Nat) (hp:w.cell? ⟨p,0,none⟩=some (.string name)) :
 Calls Tryz.prog 94 #[.agg cs.toArray,.pointer (some ⟨p,0,none⟩)] w fun e w'=>e= .returned (.bool (isB 1 name x))∧Below w.heap.size w w':=by
 obtain ⟨t,d,rfl,⟨a,c,rfl,_⟩,⟨a2,c2,rfl,_⟩⟩:=h;have hpl:=kB5 hp;obtain ⟨B0,ya,hW0⟩:=box1 w 42 [.int .i64 x.kind,.string x.v,.int .i64 x.dim.const,.slice a x.dim.terms.length c,.string x.row.row,.slice a2 x.row.dims.length c2,.string x.elem];have xa0:=box0 ya 0 _ rfl;have xa1:=box0 ya 1 _ rfl;have xa2:=box0 ya 2 _ rfl;have xa3:=box0 ya 3 _ rfl;have xa4:=box0 ya 4 _ rfl;have xa5:=box0 ya 5 _ rfl;have xa6:=box0 ya 6 _ rfl;clear ya;have hp:=kAE hp _ B0.out;have HE:Hid (isB 1 name x=(x.kind==1 && (x.v.toList==name.toList))):=hJ rfl;by_cases h1:x.kind=1
 · have q1:(x.kind==1)=true:=beq_iff_eq.2 h1
   clear h1;have HF:Hid (isB 1 name x=(x.v.toList==name.toList)):=hJ (by rw [HE.out,q1];rfl);go_enter func94,ntmps94
   go_wp2_with fail
   go_ret;exact ⟨by rw [HF.out];rfl,B0.out⟩
 · have q1:(x.kind==1)=false:=beq_eq_false_iff_ne.2 h1
   clear h1;have HF:Hid (isB 1 name x=false):=hJ (by rw [HE.out,q1];rfl);go_enter func94,ntmps94
   go_wp2_with fail
   go_ret;exact ⟨by rw [HF.out];rfl,B0.out⟩
theorem sub1_hit {b:List Bnd} {v:Str} (h:0≤kAW b 1 v):∃ k:Nat,kAW b 1 v=(k:Int)∧k<b.length∧sub1 b v=(b.getD k default).dim:=by
 unfold kAW idx at h ⊢;by_cases ha:b.any (isB 1 v)=true
 · rw [if_pos ha] at h ⊢
   refine ⟨b.findIdx (isB 1 v),rfl,(kGH ha).1,?_⟩;unfold sub1 bndL;rw [if_pos ha,if_pos ha]
 · rw [if_neg ha] at h;omega
theorem sub1_miss {b:List Bnd} {v:Str} (h:kAW b 1 v<0):sub1 b v=varL v:=by
 unfold sub1;rw [kCU.1 h];rfl
theorem timesL_var {acc:Lin} (hs:Srt acc.terms) (v:Str) (c:Int):(kCJ acc (varL v) c).const=acc.const∧∀ s,kAN (kCJ acc (varL v) c).terms s=if seq v s then kAN acc.terms v+c else kAN acc.terms s:=by
 refine ⟨by show acc.const+c * 0=_;omega,fun s=>?_⟩
 show kAN (plus acc.terms v (c * 1)) s=_
 rw [plus_coef hs]
 split
 · next q=>rw [(kA6 _ _).1 q];omega
 · omega
theorem kD0 {S T:Blk} {x:Lin} {cs:List Value} {w:World} (h:RLin.rd S w cs x) (hv:kAB x=true) (b:List Bnd) (a:Option Addr) (nb cb:Nat) (hbs:Sl RBnd T w a nb cb b) (hg:GoodB b) (E:Env w) :
 Calls Tryz.prog 40 #[.agg cs.toArray,.slice a nb cb] w fun e w'=>(∃ ds,e= .returned (.tuple #[.agg ds.toArray,.int .i64 (limE (kAD b x))])∧RLin.rd (fun k=>w.heap.size≤k) w' ds (limL (kAD b x)))∧Below w.heap.size w w':=by
 have HCV:Hid (∀ W,Below w.heap.size w W→Calls Tryz.prog 66 #[.agg cs.toArray] W fun e w'=>e= .returned (.bool true)∧Below W.heap.size W w') :=
  hJ (fun W hW=>hv ▸ kBX (RLin.below h hW) (kE0 hv) (E.below hW))
 have HZ:=hJ (subRaw_sz hg hv);obtain ⟨_,rfl,ax,cx,rfl,hsx⟩:=h;have hvp:=kAV hv;have HP:=hJ hvp;have HV:=hJ hv;have HG:=hJ hg;have HSX:=hJ hsx;have HBS:=hJ (hbs.mono (S':=fun q=>q<w.heap.size) (fun k hk hlt=>hlt));have hnb:=hbs.small;have EE:=hJ E;have hmx:=hsx.small;have hlen:=hvp.2.2.2.2.2;clear hsx hbs hvp hv hg E;generalize hnx:x.terms.length=n at *;have HNX:=hJ hnx;clear hnx;obtain ⟨B0,ya,yb,hW0⟩:=box2 w 40 [.int .i64 x.const,.slice ax n cx] 40 [.int .i64 0,.slice none 0 0];have xa0:=box0 ya 0 _ rfl;have xa1:=box0 ya 1 _ rfl;have xb0:=box0 yb 0 _ rfl;have xb1:=box0 yb 1 _ rfl;have bka:Bx _ _ _ _:=ya;have bkb:Bx _ _ _ _:=yb;clear ya yb;have HB4:=hJ bkb;clear bka bkb;have hmf:∀ (fn:Fn) (first cap:Array Value) (w:World),(Instr.makeFunc fn first cap).run Tryz.prog w= .ok (.func fn first cap) w:=fun _ _ _ _=>rfl
 have hmm:= @run_makeMap Tryz.prog;go_enter func40,ntmps40
 go_wp2_with fail
 refine (HCV.out _ B0.out).mono ?_;rintro e w1 ⟨rfl,hb⟩;have y0:=kAE xa0 _ hb;have y1:=kAE xa1 _ hb;have HW:=hJ (B0.out.trans (hb.mono B0.out.size));have HX4:=hJ (HB4.out.below hb HB4.out.lt);have hl4:=HX4.out.lt;have hl2:w.heap.size<w1.heap.size:=by omega
 clear xa0 xa1 xb0 xb1 hb HB4
 go_wp2_with fail
 have hBX0:Hid (Bx ((w1.alloc (.map #[] 0)).alloc (.cells #[.int .i64 x.const,.map (some w1.heap.size)] 126)) (w1.heap.size+1) 126 [.int .i64 x.const,.map (some w1.heap.size)]):=hJ (by
  have h:=Bx.fresh (w1.alloc (.map #[] 0)) 126 [.int .i64 x.const,.map (some w1.heap.size)];have e:(w1.alloc (.map #[] 0)).heap.size=w1.heap.size+1:=by simp
  rw [e] at h;exact h)
 go_loopw [21] (fun i wr=>∃ (j n':Nat) (D':DataW Unit),j≤n∧i= .int .i64 j∧n'≤j * 12∧Hid (Bx wr (w1.heap.size+1) 126 [.int .i64 (kD4 b x.const (x.terms.take j)).const,.map (some w1.heap.size)])∧Hid (MapF wr w1.heap.size n' D' (kAN (kD4 b x.const (x.terms.take j)).terms))∧Hid (Below w1.heap.size w1 wr)) (fun i _=>n - (intOf i).toNat)
 case atStart=>exact ⟨0,0,_,Nat.zero_le _,rfl,zR _,hBX0,hJ ((MapF.made w1).kept ((zB _ _).alloc (zR _) _)),hJ (((zB _ _).alloc (zR _) _).alloc (by simp) _)⟩
 case round =>
  obtain ⟨j,n',D',hj,rfl,hn',HX,HM,HB⟩:=hrel;have hgs:=HX.out.lt;have hms:=HM.out.lt;by_cases hlt:j<n
  · obtain ⟨b0,off,rfl,hbW,_⟩:=HSX.out.form j hlt
    have HBw:=hJ (HW.out.trans (HB.out.mono HW.out.size));obtain ⟨c0,c1⟩:=(HSX.out.below HBw.out).coef j hlt;have HKl:Hid (j<x.terms.length):=hJ (by rw [HNX.out];exact hlt);have HStep:=hJ (subRun_take (b:=b) (c:=x.const) HKl.out);have HOK:=hJ (valid_take HV.out HG.out j (by rw [HNX.out];exact hj));have HN:=hJ (HP.out.2.2.2.1 _ (kAM HKl.out));have HCb:=hJ (HP.out.2.2.1 _ (kAM HKl.out));have HS1:=hJ (kHD HG.out HN.out);generalize x.terms.getD j default=t at *;generalize hacc:kD4 b x.const (x.terms.take j)=acc at *;clear hacc;have HBsw:=hJ (HBS.out.below (HBw.out.trans ((zB wr.heap.size wr).alloc (zR _) (.cells #[.string t.v,.int .i64 t.c] 44) |>.mono HBw.out.size)));have HT0:=hJ (Bx.fresh wr 44 [.string t.v,.int .i64 t.c]);have HC:=hJ (index_Bnd b a nb cb _ HBsw.out 94 #[.pointer (some ⟨wr.heap.size,0,none⟩)] (kBJ func94 rfl rfl) (isB 1 t.v) (fun W x cs hb _ hr=>linear_Subst_1 hr t.v wr.heap.size (kAE (HT0.out.cell 0 _ rfl) _ hb)));have HFd:Hid (kAW b 1 t.v=idx (isB 1 t.v) b):=hJ rfl;rw [← HFd.out] at HC;by_cases hq:kAW b 1 t.v<0
    · have HSel:=hJ (sub1_miss hq)
      generalize kAW b 1 t.v=q at *
      go_wp2_with fail
      refine (HC.out).mono ?_;rintro e w2 ⟨rfl,hb2⟩;have hA2:Below wr.heap.size wr w2:=((zB _ _).alloc (zR _) _).trans (hb2.mono (by simp));have HX2:=hJ (HX.out.below hA2 hgs);have HM2:=hJ (HM.out.kept hA2);have HT2:=hJ (HT0.out.below hb2 (by simp));have g1:=HX2.out.cell 1 _ rfl;have g0:=HX2.out.cell 0 _ rfl;have t0:=HT2.out.cell 0 _ rfl;have t1:=HT2.out.cell 1 _ rfl;have hnm:t.v.size≤maxLen:=zE (kC7 HN.out) (by decide);have hcb:=HCb.out
      have hTb: -9223372036854775808≤kAN acc.terms t.v+t.c∧kAN acc.terms t.v+t.c≤9223372036854775807:=by
       have h1:=kFW (by omega) HOK.out.bd t.v;omega
      have hv2:IntKind.i64.wrap (kAN acc.terms t.v+t.c)=kAN acc.terms t.v+t.c:=by rw [IntKind.wrap_i64];omega
      obtain ⟨hT1,hT2⟩:=hTb;have hl6:=HM2.out.look t.v hnm;obtain ⟨w6,D6,hr6,hM6,hg6⟩:=HM2.out.put (by unfold maxLen;omega) t.v hnm (kAN acc.terms t.v+t.c) ⟨hT1,hT2⟩;have HG6:=hJ (K2.of_grown (p:=w1.heap.size+1) hg6);have HM6:=hJ hM6;have HX6:Hid (Bx w6 (w1.heap.size+1) 126 [.int .i64 acc.const,.map (some w1.heap.size)]):=hJ ((hg6.block _ HX2.out.lt (fun e=>by injection e with e;omega)).trans HX2.out);have HB6:Hid (Below w1.heap.size w1 w6):=hJ ((HB.out.trans (hA2.mono HB.out.size)).trans (HG6.out.below (by omega) (by omega) (by have:=HB.out.size;have:=hA2.size;omega)));have HTv:=hJ (timesL_var HOK.out.srt t.v t.c);clear hM6 hg6 hb2 hA2
      go_wp2_with fail
      go_roundw
      case rel=>exact ⟨j+1,n'+1,D6,by omega,by go_num,by omega,by rw [HStep.out,HSel.out,HTv.out.1];exact HX6,by rw [HStep.out,HSel.out];exact hJ ⟨HM6.out.own,fun s=>by rw [HTv.out.2 s];exact HM6.out.at_ s⟩,HB6⟩
      case measure=>simp [intOf];omega
    · obtain ⟨k,hk,hkl,hsel⟩:=sub1_hit (b:=b) (v:=t.v) (by omega)
      rw [hk] at HC;have hkn:k<nb:=by rw [← HBS.out.len];exact hkl
      clear hq hk HFd;obtain ⟨bb,boff,rfl,hbb,hSb⟩:=HBS.out.form k hkn;have hkn2:(k:Int)<(nb:Int):=by omega
      go_wp2_with fail
      refine (HC.out).mono ?_;rintro e w2 ⟨rfl,hb2⟩;have hA2:Below wr.heap.size wr w2:=((zB _ _).alloc (zR _) _).trans (hb2.mono (by simp));have HW2:=hJ (HBw.out.trans (hA2.mono HBw.out.size));have HX2:=hJ (HX.out.below hA2 hgs);have HM2:=hJ (HM.out.kept hA2);have HT2:=hJ (HT0.out.below hb2 (by simp));obtain ⟨td,dd,hr,⟨⟨ad,cd,rfl,hds⟩,hrd⟩,e0,e1,e2,e3,e4,e5,e6⟩:=(HBS.out.below HW2.out).bnd k hkn;have HHds:=hJ hds;generalize b.getD k default=y at *;have HYv:Hid (kAB y.dim=true):=hJ (hsel ▸ HS1.out);have HCV2:=hJ (kCM y.dim ad _ cd w2 HHds.out (kE0 HYv.out) (EE.out.below HW2.out));rw [HYv.out] at HCV2;have hA2s:=hJ hA2;clear hr hrd hds hb2 hA2 e0 e1 e4 e5 e6 c0 c1;generalize hLd:y.dim.terms.length=Ld at *
      go_wp2_with fail
      refine (HCV2.out).mono ?_;rintro e w3 ⟨rfl,hb3⟩;have hA3:Below wr.heap.size wr w3:=hA2s.out.trans (hb3.mono hA2s.out.size);have HX3:=hJ (HX2.out.below hb3 HX2.out.lt);have HM3:=hJ (HM2.out.kept hb3);have HT3:=hJ (HT2.out.below hb3 HT2.out.lt);have k2:=kAE e2 _ hb3;have k3:=kAE e3 _ hb3;have k4:=HT3.out.cell 1 _ rfl;have HDs3:=hJ (HHds.out.below hb3);have hbb3:bb<w3.heap.size:=kB5 k2;have hT3:=HT3.out.lt
      have HCA:Hid (∀ W',Below w3.heap.size w3 W'→Calls Tryz.prog 95 #[.pointer (some ⟨w1.heap.size+1,0,none⟩),.agg #[.int .i64 y.dim.const,.slice ad Ld cd],.int .i64 t.c] W' fun e w'=>e= .returned (.tuple #[])∧Bx w' (w1.heap.size+1) 126 [.int .i64 (kCJ acc y.dim t.c).const,.map (some w1.heap.size)]∧(∃ n2 D2,n2≤n'+12∧MapF w' w1.heap.size n2 D2 (kAN (kCJ acc y.dim t.c).terms))∧K2 (w1.heap.size+1) w1.heap.size W' w') :=
       hJ (fun W' hW'=>sum_add (S:=fun q=>q<w.heap.size) (y:=y.dim) (cs:=[.int .i64 y.dim.const,.slice ad Ld cd]) ⟨_,rfl,ad,cd,by rw [hLd],by rw [hLd];exact HDs3.out.below hW'⟩ HYv.out _ _ n' D' acc (by omega) HOK.out (HX3.out.below hW' HX3.out.lt) (HM3.out.kept hW') (by omega) t.c HCb.out (fun q hq=>⟨by have:=HW.out.size;omega,by have:=HW.out.size;omega⟩) (by omega))
      have HSelH:Hid (sub1 b t.v=y.dim):=hJ hsel;have hA3s:=hJ hA3;clear hsel hb3 hA3 e2 e3
      go_wp2_with fail
      go_region_held3 (fun w'=>w'.cell? ⟨bb,boff+k * 7+2,none⟩=some (.int .i64 y.dim.const)∧w'.cell? ⟨bb,boff+k * 7+3,none⟩=some (.slice ad Ld cd)∧w'.cell? ⟨wr.heap.size,1,none⟩=some (.int .i64 t.c)) (first | exact ⟨p0,p1,p2⟩ | go_keep) (first
       | (go_at_call 95
          refine (HCA.out _ (by first | exact zB _ _ | exact (zB _ _).drew)).mono ?_;rintro e w4 ⟨rfl,hX4,⟨n2,D2,hn2,hM4⟩,hK4⟩;have p0:w4.cell? ⟨bb,boff+k * 7+2,none⟩=some (.int .i64 y.dim.const):=kCE (show w3.drew.cell? _=_ from k2) (fun _=>hK4.block bb hbb3 (by have:=HW.out.size;omega) (by have:=HW.out.size;omega));have p1:w4.cell? ⟨bb,boff+k * 7+3,none⟩=some (.slice ad Ld cd):=kCE (show w3.drew.cell? _=_ from k3) (fun _=>hK4.block bb hbb3 (by have:=HW.out.size;omega) (by have:=HW.out.size;omega));have p2:w4.cell? ⟨wr.heap.size,1,none⟩=some (.int .i64 t.c):=kCE (show w3.drew.cell? _=_ from k4) (fun _=>hK4.block wr.heap.size hT3 (by omega) (by omega));have HX4':=hJ hX4;have HM4':=hJ hM4;have HK4':=hJ hK4;clear hX4 hM4 hK4))
      all_goals
       have HBN:Hid (Below w1.heap.size w1 w4):=hJ ((HB.out.trans ((hA3s.out.trans (zB _ _).drew).mono HB.out.size)).trans (HK4'.out.below (by omega) (by omega) (by have:=HB.out.size;have:=hA3s.out.size;show w1.heap.size≤w3.heap.size;omega)))
       go_wp2_with fail
       go_roundw
       case rel=>exact ⟨j+1,n2,D2,by omega,by go_num,by omega,by rw [HStep.out,HSelH.out];exact HX4',by rw [HStep.out,HSelH.out];exact HM4',HBN⟩
       case measure=>simp [intOf];omega
  · obtain rfl:j=n:=by omega
    have HEnd:Hid (kD4 b x.const (x.terms.take j)=kAD b x):=hJ (by rw [zT (by rw [HNX.out];exact zR _)];rfl);have HOK:=hJ (valid_take HV.out HG.out j (by rw [HNX.out];exact zR _));rw [HEnd.out] at HX HM HOK;have HCL:=hJ (sum_result (w:=wr) (w1.heap.size+1) w1.heap.size n' D' (kAD b x) HOK.out.srt HOK.out.nz HZ.out HX.out HM.out (by omega) (EE.out.below (HW.out.trans (HB.out.mono HW.out.size))));have HX40:=hJ (HX4.out.below HB.out hl4)
    go_wp2_with fail
    refine HCL.out.mono ?_;rintro e w5 ⟨⟨_,rfl,hr5⟩,hb5⟩;obtain ⟨_,rfl,a5,c5,rfl,hs5⟩:=hr5;have HX5:=hJ (HX40.out.below hb5 (by omega));have u0:=HX5.out.cell 0 _ rfl;have u1:=HX5.out.cell 1 _ rfl;have u2:=HX5.out.fz 0;have u3:=HX5.out.fz 1;have HX60:=hJ ((HX5.out.set 0 (.int .i64 (limL (kAD b x)).const)).set 1 (.slice a5 (limL (kAD b x)).terms.length c5));have s0:=HX60.out.cell 0 _ rfl;have s1:=HX60.out.cell 1 _ rfl;have HS5:=hJ hs5;clear hs5
    go_wp2_with fail
    refine bodyPost_ret (v:=.tuple #[.agg #[.int .i64 (limL (kAD b x)).const,.slice a5 (limL (kAD b x)).terms.length c5],.int .i64 (limE (kAD b x))]) (by simp [results,results40,go_sem,s0,s1]) rfl ?_;refine ⟨⟨[.int .i64 (limL (kAD b x)).const,.slice a5 (limL (kAD b x)).terms.length c5],rfl,⟨_,rfl,a5,c5,rfl,?_⟩⟩,?_⟩
    · refine (HS5.out.frame fun q hq _=>?_).mono (fun q hq _=>by have:=HW.out.size;omega)
      rw [kAA (by show w.heap.size+1≠q;omega),kAA (by show w.heap.size+1≠q;omega)]
    · exact HW.out.trans ((((HB.out.trans (hb5.mono HB.out.size)).mono HW.out.size).setCell (by show _≤w.heap.size+1;omega) _).setCell (by show _≤w.heap.size+1;omega) _)
def nnS:Str:=⟨#[110]⟩
def qL:Lin:=⟨-3,[⟨nnS,1⟩]⟩
def bd3:Bnd:=⟨1,nnS,⟨3,[]⟩,⟨⟨#[]⟩,[]⟩,⟨#[]⟩⟩
theorem kHL:kAB qL=true:=by kernel_rfl
theorem qL_coef:kAN qL.terms nnS=1:=by kernel_rfl
theorem qL_sub:limL (kAD [bd3] qL)=⟨0,[]⟩∧limE (kAD [bd3] qL)=0:=by constructor <;> kernel_rfl
theorem bd3_good:GoodB [bd3]:=fun y hy _=>by rw [List.mem_singleton] at hy;subst hy;kernel_rfl
theorem eqn_put1 {w:World} {g p o ob:Nat} {E0:TypeId} {rest:List Value} {at_:Option Addr} {ct:Nat} (hX:Bx w g E0 (.int .i64 (-3) :: .slice at_ 1 ct :: rest)) (hr:Sl kA7 All w at_ 1 ct [⟨nnS,1⟩]) (hp:Bx w p 9 [.string nnS]) (ho:Bx w o 36 [.slice (some ⟨ob,0,none⟩) 1 1]) (hb:Sl RBnd All w (some ⟨ob,0,none⟩) 1 1 [bd3]) (E:Env w) :
 Calls Tryz.prog 362 #[.pointer (some ⟨g,0,none⟩),.pointer (some ⟨p,0,none⟩),.pointer (some ⟨o,0,none⟩)] w fun e w'=>e= .returned (.bool true)∧∃ a' c',Bx w' g E0 (.int .i64 0 :: .slice a' 0 c' :: rest)∧Kb g w w':=by
 have hrd:RLin.rd All w [.int .i64 (-3),.slice at_ 1 ct] qL:=⟨_,rfl,at_,ct,rfl,hr⟩
 have HCo:Hid (∀ t:Later w,Calls Tryz.prog 174 #[.agg #[.int .i64 (-3),.slice at_ 1 ct],.string nnS] t.w fun e w'=>e= .returned (.int .i64 1)∧Below t.w.heap.size t.w w'):=hJ (fun t=>by
  have h:=linear_Coef (RLin.below hrd t.b) nnS;rw [qL_coef] at h;exact h)
 have HSu:Hid (∀ W,Below w.heap.size w W→Calls Tryz.prog 40 #[.agg #[.int .i64 (-3),.slice at_ 1 ct],.slice (some ⟨ob,0,none⟩) 1 1] W fun e w'=>(∃ a' c',e= .returned (.tuple #[.agg #[.int .i64 0,.slice a' 0 c'],.int .i64 0]))∧Below w.heap.size w w'∧Below W.heap.size W w'):=hJ (fun W hW=>by
  have h:=kD0 (RLin.below hrd hW) kHL [bd3] _ 1 1 (hb.below hW) bd3_good (E.below hW);rw [qL_sub.1,qL_sub.2] at h;refine h.mono ?_;rintro e w' ⟨⟨ds,rfl,t,rfl,a',c',rfl,_⟩,hb⟩;exact ⟨⟨a',c',rfl⟩,hW.trans (hb.mono hW.size),hb⟩)
 have HX:=hJ hX;have x0:=hX.cell 0 _ rfl;have x1:=hX.cell 1 _ rfl;have p0:=hp.cell 0 _ rfl;have o0:=ho.cell 0 _ rfl;have hgl:=hX.lt;have hpl:=hp.lt;have hol:=ho.lt;clear hX hr hp ho hb E hrd;have X0:=Later.cell x0;have X1:=Later.cell x1;have P0:=Later.cell p0;go_enter func362,ntmps362
 go_wp2_with fail
 refine kAC (by kernel_rfl) (by kernel_rfl) ?_
 repeat (go_big_quiet_step (first | fail | exact Later.call (HCo.out _)))
 refine wpQuiet_nil ?_;rintro _ ⟨t9,rfl⟩;have HB9:Hid (Below w.heap.size w t9.w):=hJ t9.b;generalize t9.w=w1 at *;clear X0 X1 P0 HCo;have x0:=kAE x0 _ HB9.out;have x1:=kAE x1 _ HB9.out;have o0:=kAE o0 _ HB9.out;have p0:=kAE p0 _ HB9.out;have hz1:=HB9.out.size;have HS1:Hid (∀ W,Below w1.heap.size w1 W→Calls Tryz.prog 40 #[.agg #[.int .i64 (-3),.slice at_ 1 ct],.slice (some ⟨ob,0,none⟩) 1 1] W fun e w'=>(∃ a' c',e= .returned (.tuple #[.agg #[.int .i64 0,.slice a' 0 c'],.int .i64 0]))∧Below w1.heap.size w1 w'∧Below W.heap.size W w'):=hJ (fun W hW=>(HSu.out W (HB9.out.trans (hW.mono HB9.out.size))).mono (fun e w' ⟨h1,h2,h3⟩=>⟨h1,hW.trans (h3.mono hW.size),h3⟩));clear HSu
 go_wp2_with fail
 go_region_held3 (fun W=>W.cell? ⟨g,0,none⟩=some (.int .i64 (-3))∧W.cell? ⟨g,1,none⟩=some (.slice at_ 1 ct)∧W.cell? ⟨o,0,none⟩=some (.slice (some ⟨ob,0,none⟩) 1 1)) (first | (with_reducible exact ⟨z0,z1,z2⟩) | (with_reducible exact ⟨x0,x1,o0⟩) | exact ⟨(World.cell?_setCell_far _ _ _ _ (by simp only [ne_eq];omega)).trans ((World.cell?_setCell_far _ _ _ _ (by simp only [ne_eq];omega)).trans z0),(World.cell?_setCell_far _ _ _ _ (by simp only [ne_eq];omega)).trans ((World.cell?_setCell_far _ _ _ _ (by simp only [ne_eq];omega)).trans z1),(World.cell?_setCell_far _ _ _ _ (by simp only [ne_eq];omega)).trans ((World.cell?_setCell_far _ _ _ _ (by simp only [ne_eq];omega)).trans z2)⟩ | go_keep) (first
  | (go_at_call 40
     refine (HS1.out _ ?hw).mono ?_
     case hw=>(repeat (first | assumption | exact zB _ _ | exact Hid.out (by assumption) | refine kFX ?_ _ | refine kHS ?_))
     rintro e u1 ⟨⟨a',c',rfl⟩,hBz,hBy⟩;have hX9:Bx u1 w1.heap.size 40 [.int .i64 0,.slice none 0 0]:=(by first | (unfold Bx;rw [hBy.block _ (by show _<(w1.heap.push _).size;simp)];show (w1.heap.push _)[_]? =_;simp;done) | fail)
     have q0:=hX9.fz 0;have q1:=hX9.fz 1;have q2:=hX9.cell 0 _ rfl;have q3:=hX9.cell 1 _ rfl;have HX9:=hJ hX9;have z0:=kAE x0 _ hBz;have z1:=kAE x1 _ hBz;have z2:=kAE o0 _ hBz;have HXg:=hJ (HX.out.below (HB9.out.trans (hBz.mono HB9.out.size)) hgl);have g0:=HXg.out.fz 0;have g1:=HXg.out.fz 1;clear hX9)
  | (go_at_call 40
     refine (HS1.out _ ?hw).mono ?_
     case hw=>(repeat (first | assumption | exact zB _ _ | exact Hid.out (by assumption) | refine kFX ?_ _ | refine kHS ?_))
     rintro e u1 ⟨⟨a',c',rfl⟩,hBz,hBy⟩;have z0:=kAE x0 _ hBz;have z1:=kAE x1 _ hBz;have z2:=kAE o0 _ hBz;have HXg:=hJ (HX.out.below (HB9.out.trans (hBz.mono HB9.out.size)) hgl);have g0:=HXg.out.fz 0;have g1:=HXg.out.fz 1))
 · have HB1:Hid (Below w.heap.size w (u1.alloc (.cells #[.int .i64 0,.slice a' 0 c'] 40))):=hJ ((HB9.out.trans (hBz.mono hz1)).alloc (by have:=hBz.size;omega) _)
   have HXq:=hJ (HXg.out.alloc (.cells #[.int .i64 0,.slice a' 0 c'] 40));have f0:=HXq.out.fz 0;have f1:=HXq.out.fz 1
   go_wp2_with fail
   go_ret;exact ⟨rfl,a',c',(HXq.out.set 0 _).set 1 _,((((Kb.refl g w).later HB1.out).set 0 _).set 1 _)⟩
 · have hB1:Below w.heap.size w ((u1.setCell ⟨w1.heap.size,0,none⟩ (.int .i64 0)).setCell ⟨w1.heap.size,1,none⟩ (.slice a' 0 c')):=((HB9.out.trans (hBz.mono hz1)).setCell hz1 _).setCell hz1 _
   have HB1:=hJ hB1;have HXq:Hid (Bx ((u1.setCell ⟨w1.heap.size,0,none⟩ (.int .i64 0)).setCell ⟨w1.heap.size,1,none⟩ (.slice a' 0 c')) g E0 _):=hJ ((HXg.out.other (by show w1.heap.size≠g;omega)).other (by show w1.heap.size≠g;omega));clear hB1;have f0:=HXq.out.fz 0;have f1:=HXq.out.fz 1
   go_wp2_with fail
   go_ret;exact ⟨rfl,a',c',(HXq.out.set 0 _).set 1 _,((((Kb.refl g w).later HB1.out).set 0 _).set 1 _)⟩
end Go.Proofs.YtcjfagnlmlkedaaGreatDoor
