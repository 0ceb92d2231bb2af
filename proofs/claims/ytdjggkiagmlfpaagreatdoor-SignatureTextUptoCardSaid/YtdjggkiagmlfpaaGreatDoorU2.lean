/- The claim's texts, part 2: contracts of the functions that the statement reaches, and what they say of the data. -/
import Derived.Test.YtdjggkiagmlfpaaGreatDoorU1
set_option maxRecDepth 100000
set_option maxHeartbeats 8000000
set_option linter.all false
namespace Go.Proofs.YtdjggkiagmlfpaaGreatDoor
open Go.Proofs.Tryz
open Go.RowKit
theorem cmpB:∀ (x y:List UInt8),Lib.compareBytes x y=if Op.bytesLess x y=true then -1 else if Op.bytesLess y x=true then 1 else 0
 | [],[]=>rfl
 | [],_ :: _=>rfl
 | _ :: _,[]=>rfl
 | a :: x,b :: y=>by
   unfold Lib.compareBytes Op.bytesLess;by_cases h1:a<b
   · simp [h1]
   · by_cases h2:b<a
     · have:¬ a=b:=by intro e;subst e;exact h1 h2
       have h3:¬ a<b:=h1;simp [h1,h2,this]
     · have:a=b:=UInt8.le_antisymm (UInt8.not_lt.1 h2) (UInt8.not_lt.1 h1)
       subst this;simp [h1,cmpB x y]
def cmpS (a b:Str):Int:=if slt a b then -1 else if slt b a then 1 else 0
theorem strings_cmp (a b:Str) (w:World):Calls Tryz.prog 65 #[.string a,.string b] w fun e w'=>e= .returned (.int .i64 (cmpS a b))∧w=w':=by
 refine (Tryz.strings_Compare a b w).mono ?_;rintro e w' ⟨rfl,rfl⟩;refine ⟨?_,rfl⟩;unfold cmpS slt;rw [cmpB,ByteArray.toList_eq,ByteArray.toList_eq]
theorem linear_order (a b:Int) (w:World):Calls Tryz.prog 140 #[.int .i64 a,.int .i64 b] w fun e w'=>e= .returned (.int .i64 (ordI a b))∧w=w':=by
 unfold ordI;by_cases h0:a<b
 · have q:decide (a<b)=true:=decide_eq_true h0
   go_enter func140,ntmps140
   go_wp2_with fail
   go_ret;exact ⟨rfl,rfl⟩
 · by_cases h1:b<a
   · go_enter func140,ntmps140
     go_wp2_with fail
     go_ret;exact ⟨rfl,rfl⟩
   · go_enter func140,ntmps140
     go_wp2_with fail
     go_ret;exact ⟨rfl,rfl⟩
theorem cmpCoef_s (s t:Coef):kAY s t=if cmpS s.v t.v=0 then ordI s.c t.c else cmpS s.v t.v:=by
 unfold kAY cmpS;cases slt s.v t.v <;> cases slt t.v s.v <;> simp
theorem linear_Compare_1 (s t:Coef) (w:World):Calls Tryz.prog 139 #[.agg #[.string s.v,.int .i64 s.c],.agg #[.string t.v,.int .i64 t.c]] w fun e w'=>e= .returned (.int .i64 (kAY s t))∧Below w.heap.size w w':=by
 obtain ⟨B0,ya,yb,hW0⟩:=box2 w 46 [.string s.v,.int .i64 s.c] 46 [.string t.v,.int .i64 t.c];have xa0:=box0 ya 0 _ rfl;have xa1:=box0 ya 1 _ rfl;have xb0:=box0 yb 0 _ rfl;have xb1:=box0 yb 1 _ rfl;clear ya yb;have HN:=hJ (cmpCoef_s s t);have HC:=fun w=>strings_cmp s.v t.v w
 generalize cmpS s.v t.v=d at *;have HC:=hJ HC;by_cases hd:d=0
 · have HF:Hid (kAY s t=ordI s.c t.c):=hJ (by rw [HN.out,if_pos hd])
   have hq:(d != 0)=false:=by rw [hd];rfl
   go_enter func139,ntmps139
   go_wp2_with fail
   refine (HC.out _).mono ?_;rintro e _ ⟨rfl,rfl⟩
   go_wp2_with fail
   refine (linear_order _ _ _).mono ?_;rintro e _ ⟨rfl,rfl⟩
   go_wp2_with fail
   go_ret;exact ⟨by rw [HF.out];rfl,B0.out⟩
 · have HF:Hid (kAY s t=d):=hJ (by rw [HN.out,if_neg hd])
   have hq:(d != 0)=true:=bne_iff_ne.2 hd;go_enter func139,ntmps139
   go_wp2_with fail
   refine (HC.out _).mono ?_;rintro e _ ⟨rfl,rfl⟩
   go_wp2_with fail
   go_ret;exact ⟨by rw [HF.out];rfl,B0.out⟩
theorem compareFunc_Coef {S T:Blk} (l l2:List Coef) (a a2:Option Addr) (n n2 c c2:Nat) (w:World) (h:Sl kCB S w a n c l) (h2:Sl kCB T w a2 n2 c2 l2) :
 Calls Tryz.prog 138 #[.slice a n c,.slice a2 n2 c2,.func (.func 139) #[] #[]] w fun e w'=>e= .returned (.int .i64 (kAT l l2))∧Below w.heap.size w w':=by
 have H:=hJ h;have H2:=hJ h2;have hn:=h.small;have hn2:=h2.small;clear h h2;have hen:=kBG func139 rfl rfl;go_enter func138,ntmps138
 go_wp2_with fail
 go_loopw [13] (fun i wr=>∃ k:Nat,k≤n∧k≤n2∧i= .int .i64 k∧Hid (∀ j,j<k→kAY (l.getD j default) (l2.getD j default)=0)∧Below w.heap.size w wr) (fun i _=>n - (intOf i).toNat)
 case atStart=>exact ⟨0,Nat.zero_le _,Nat.zero_le _,rfl,fun j hj=>absurd hj (by omega),Below.refl _ _⟩
 case round =>
  obtain ⟨k,hk,hk2,rfl,HT,hB⟩:=hrel;by_cases hlt:k<n
  · obtain ⟨b,off,rfl,hbW,_⟩:=H.out.form k hlt
    have HR:=hJ (H.out.below hB);obtain ⟨c0,c1⟩:=HR.out.coef k hlt;by_cases hlt2:k<n2
    · obtain ⟨b2,off2,rfl,hbW2,_⟩:=H2.out.form k hlt2
      have HR2:=hJ (H2.out.below hB);obtain ⟨d0,d1⟩:=HR2.out.coef k hlt2;have HS:Hid (kAY (l.getD k default) (l2.getD k default)≠0→kAT l l2=kAY (l.getD k default) (l2.getD k default)):=hJ (fun q=>cmp_stop (by rw [H.out.len];exact hlt) (by rw [H2.out.len];exact hlt2) HT.out q);have HG:Hid (kAY (l.getD k default) (l2.getD k default)=0→∀ j,j<k+1→kAY (l.getD j default) (l2.getD j default)=0):=hJ (fun q=>upto HT.out q);generalize l.getD k default=x at *;generalize l2.getD k default=y at *;have hA1:Below wr.heap.size wr (wr.alloc (.cells #[.string x.v,.int .i64 x.c] 46)):=(Below.refl _ _).alloc (Nat.le_refl _) _;have e0:=kAG d0 _ hA1;have e1:=kAG d1 _ hA1;clear hA1 d0 d1;have HC:=hJ (linear_Compare_1 x y);generalize kAY x y=d at *;by_cases hd:d=0
      · have HGo:=hJ (HG.out hd)
        have hq:(d != 0)=false:=by rw [hd];rfl
        clear hd
        go_wp2_with (go_at_call 139;refine (HC.out _).mono ?_;rintro e w' ⟨rfl,hb'⟩)
        go_roundw
        case rel=>exact ⟨k+1,by omega,by omega,by go_num,HGo,(hB.trans ((blw2 _ _ _).mono hB.size)).trans (hb'.mono (Nat.le_trans hB.size (blw2 _ _ _).size))⟩
        case measure=>simp [intOf];omega
      · have HF:=hJ (HS.out hd)
        have hq:(d != 0)=true:=bne_iff_ne.2 hd;clear hd
        go_wp2_with (go_at_call 139;refine (HC.out _).mono ?_;rintro e w' ⟨rfl,hb'⟩)
        go_ret;exact ⟨by rw [HF.out];rfl,(hB.trans ((blw2 _ _ _).mono hB.size)).trans (hb'.mono (Nat.le_trans hB.size (blw2 _ _ _).size))⟩
    · have HF:Hid (kAT l l2=1):=hJ (by
       rw [cmp_end (k:=k) (.inr (by rw [H2.out.len];omega)) (by rw [H.out.len];omega) (by rw [H2.out.len];omega) HT.out,H.out.len,H2.out.len];unfold ordI;rw [if_neg (by omega),if_pos (by omega)])
      have hq:(n2:Int)≤(k:Int):=by omega
      go_wp2_with fail
      go_ret;exact ⟨by rw [HF.out];rfl,hB.alloc hB.size _⟩
  · obtain rfl:k=n:=by omega
    have HE:Hid (kAT l l2=ordI k n2):=hJ (by
     rw [cmp_end (k:=k) (.inl (by rw [H.out.len])) (by rw [H.out.len];omega) (by rw [H2.out.len];omega) HT.out,H.out.len,H2.out.len])
    by_cases hq:k<n2
    · have HF:Hid (kAT l l2= -1):=hJ (by rw [HE.out];unfold ordI;rw [if_pos (by omega)])
      go_wp2_with fail
      go_ret;exact ⟨by rw [HF.out];rfl,hB⟩
    · have HF:Hid (kAT l l2=0):=hJ (by rw [HE.out];unfold ordI;rw [if_neg (by omega),if_neg (by omega)])
      go_wp2_with fail
      go_ret;exact ⟨by rw [HF.out];rfl,hB⟩
theorem linear_Compare {S T:Blk} {x y:Lin} {cs ds:List Value} {w:World} (h:RLin.rd S w cs x) (h2:RLin.rd T w ds y) :
 Calls Tryz.prog 77 #[.agg cs.toArray,.agg ds.toArray] w fun e w'=>e= .returned (.int .i64 (kCI x y))∧Below w.heap.size w w':=by
 obtain ⟨t,rfl,a,c,rfl,hs⟩:=h;obtain ⟨t2,rfl,a2,c2,rfl,hs2⟩:=h2;obtain ⟨B0,ya,yb,hW0⟩:=box2 w 49 [.int .i64 x.const,.slice a x.terms.length c] 49 [.int .i64 y.const,.slice a2 y.terms.length c2];have xa0:=box0 ya 0 _ rfl;have xa1:=box0 ya 1 _ rfl;have xb0:=box0 yb 0 _ rfl;have xb1:=box0 yb 1 _ rfl;clear ya yb;have HC:=hJ (compareFunc_Coef x.terms y.terms a a2 _ _ c c2 _ (hs.below B0.out) (hs2.below B0.out));have HN:Hid (kCI x y=if kAT x.terms y.terms=0 then ordI x.const y.const else kAT x.terms y.terms):=hJ rfl;clear hs hs2;generalize kAT x.terms y.terms=d at *;by_cases hd:d=0
 · have HF:Hid (kCI x y=ordI x.const y.const):=hJ (by rw [HN.out,if_pos hd])
   have hq:(d != 0)=false:=by rw [hd];rfl
   clear hd;go_enter func77,ntmps77
   go_wp2_with fail
   refine (HC.out).mono ?_;rintro e w1 ⟨rfl,hb⟩;have e0:=kAG xa0 _ hb;have f0:=kAG xb0 _ hb
   go_wp2_with fail
   refine (linear_order _ _ _).mono ?_;rintro e _ ⟨rfl,rfl⟩
   go_wp2_with fail
   go_ret;exact ⟨by rw [HF.out];rfl,B0.out.trans (hb.mono B0.out.size)⟩
 · have HF:Hid (kCI x y=d):=hJ (by rw [HN.out,if_neg hd])
   have hq:(d != 0)=true:=bne_iff_ne.2 hd;clear hd;go_enter func77,ntmps77
   go_wp2_with fail
   refine (HC.out).mono ?_;rintro e w1 ⟨rfl,hb⟩
   go_wp2_with fail
   go_ret;exact ⟨by rw [HF.out];rfl,B0.out.trans (hb.mono B0.out.size)⟩
theorem ordI_lt {a b:Int} (h:a<b):ordI a b= -1:=by unfold ordI;rw [if_pos h]
theorem ordI_gt {a b:Int} (h:b<a):ordI a b=1:=by unfold ordI;rw [if_neg (by omega),if_pos h]
theorem cmp_less {x y:Coef} (h:slt x.v y.v=true):kAY x y= -1:=by unfold kAY;rw [if_pos h]
theorem cmp_eq {x y:Coef} (h:seq x.v y.v=true):kAY x y=ordI x.c y.c:=by
 have e:=(kA3 _ _).1 h;unfold kAY;rw [e,kE1];rfl
theorem cmp_more {x y:Coef} (h:slt x.v y.v=false) (h2:seq x.v y.v=false):kAY x y=1:=by
 unfold kAY;rw [h];cases q:slt y.v x.v with
 | true=>rfl
 | false=>have:=kE4 h q;rw [this,seq_refl] at h2;cases h2
theorem ref04_Compare {S T:Blk} {x y:Lin} {cs ds:List Value} {w:World} (h:RLin.rd S w cs x) (h2:RLin.rd T w ds y) :
 Calls Tryz.prog 116 #[.agg cs.toArray,.agg ds.toArray] w fun e w'=>e= .returned (.int .i64 (kCI x y))∧Below w.heap.size w w':=by
 obtain ⟨t,rfl,a,c,rfl,hs⟩:=h;obtain ⟨t2,rfl,a2,c2,rfl,hs2⟩:=h2;have hn:=hs.small;have hn2:=hs2.small;generalize hL:x.terms.length=n at *;generalize hL2:y.terms.length=n2 at *;obtain ⟨B0,ya,yb,hW0⟩:=box2 w 49 [.int .i64 x.const,.slice a n c] 49 [.int .i64 y.const,.slice a2 n2 c2];have xa0:=box0 ya 0 _ rfl;have xa1:=box0 ya 1 _ rfl;have xb0:=box0 yb 0 _ rfl;have xb1:=box0 yb 1 _ rfl;clear ya yb;have H:=hJ (hs.below B0.out);have H2:=hJ (hs2.below B0.out);clear hs hs2;have HL:=hJ hL;have HL2:=hJ hL2;have HN:Hid (kCI x y=if kAT x.terms y.terms=0 then ordI x.const y.const else kAT x.terms y.terms):=hJ rfl;clear hL hL2;go_enter func116,ntmps116
 go_wp2_with fail
 generalize ((w.alloc (.cells #[.int .i64 x.const,.slice a n c] 49)).alloc (.cells #[.int .i64 y.const,.slice a2 n2 c2] 49))=W at *
 go_loopw [5] (fun i wr=>∃ k:Nat,k≤n∧k≤n2∧i= .int .i64 k∧Hid (∀ j,j<k→kAY (x.terms.getD j default) (y.terms.getD j default)=0)∧Below W.heap.size W wr) (fun i _=>n - (intOf i).toNat)
 case atStart=>exact ⟨0,Nat.zero_le _,Nat.zero_le _,rfl,fun j hj=>absurd hj (by omega),Below.refl _ _⟩
 case round =>
  obtain ⟨k,hk,hk2,rfl,HT,hB⟩:=hrel;have e1:=kAG xa1 _ hB;have f1:=kAG xb1 _ hB;by_cases hlt:k<n∧k<n2
  · obtain ⟨hlt,hlt2⟩:=hlt
    have q1:decide ((k:Int)<(n:Int))=true:=decide_eq_true (by omega);obtain ⟨b,off,rfl,hbW,_⟩:=H.out.form k hlt;obtain ⟨b2,off2,rfl,hbW2,_⟩:=H2.out.form k hlt2;have HR:=hJ (H.out.below hB);have HR2:=hJ (H2.out.below hB);obtain ⟨c0,c1⟩:=HR.out.coef k hlt;obtain ⟨d0,d1⟩:=HR2.out.coef k hlt2;have HS:Hid (kAY (x.terms.getD k default) (y.terms.getD k default)≠0→kAT x.terms y.terms=kAY (x.terms.getD k default) (y.terms.getD k default)):=hJ (fun q=>cmp_stop (by rw [HL.out];exact hlt) (by rw [HL2.out];exact hlt2) HT.out q);have HG:Hid (kAY (x.terms.getD k default) (y.terms.getD k default)=0→∀ j,j<k+1→kAY (x.terms.getD j default) (y.terms.getD j default)=0):=hJ (fun q=>upto HT.out q);generalize x.terms.getD k default=s at *;generalize y.terms.getD k default=t at *;have hb1:b<wr.heap.size:=Nat.lt_of_lt_of_le hbW hB.size;have hb2:b2<wr.heap.size:=Nat.lt_of_lt_of_le hbW2 hB.size;have hw1:w.heap.size<wr.heap.size:=by have:=hB.size;omega
    have hw2:w.heap.size+1<wr.heap.size:=by have:=hB.size;omega
    clear xa0 xb0;have HV:Hid (kAT x.terms y.terms≠0→kCI x y=kAT x.terms y.terms):=hJ (fun q=>by rw [HN.out,if_neg q])
    have HD:Hid (∀ d:Int,d≠0→kAY s t=d→kCI x y=d):=hJ (fun d q e=>by
     have e2:=HS.out (by rw [e];exact q);rw [HV.out (by rw [e2,e];exact q),e2,e])
    have hgd:∀ (o o2:Operand) (xs ys:Array Value) w,(eqGuard .neq 46 o o2 (.agg xs) (.agg ys)).run Tryz.prog w= .ok () w:=fun o o2 xs ys w=>run_eqGuard_agg w .neq _ o o2 xs ys (by kernel_rfl)
    have HEq:Hid (kDO s t=((s.v.toList==t.v.toList) && s.c==t.c)):=hJ rfl;have HL1:=hJ (@cmp_less s t);have HL2:=hJ (@cmp_eq s t);have HL3:=hJ (@cmp_more s t);by_cases hl:Op.bytesLess s.v.toList t.v.toList=true
    · have HF:Hid (kCI x y= -1):=hJ (HD.out (-1) (by decide) (HL1.out hl))
      go_wp2_with fail
      go_region
      all_goals
       go_wp2_with fail
       go_ret;exact ⟨by rw [HF.out];rfl,B0.out.trans ((((hB.alloc hB.size _).alloc (hB.alloc hB.size _).size _).drew).mono B0.out.size)⟩
    have hl:Op.bytesLess s.v.toList t.v.toList=false:=by simpa using hl
    by_cases he:(s.v.toList==t.v.toList)=true
    · have HO:=hJ (HL2.out he)
      by_cases hc:s.c<t.c
      · have HF:Hid (kCI x y= -1):=hJ (HD.out (-1) (by decide) (by rw [HO.out];unfold ordI;rw [if_pos hc]))
        have qc:decide (s.c<t.c)=true:=decide_eq_true hc
        go_wp2_with fail
        go_region
        all_goals
         go_wp2_with fail
         go_ret;exact ⟨by rw [HF.out];rfl,B0.out.trans ((((hB.alloc hB.size _).alloc (hB.alloc hB.size _).size _).drew).mono B0.out.size)⟩
      have qc:decide (s.c<t.c)=false:=decide_eq_false hc;by_cases hce:s.c=t.c
      · have HGo:=hJ (HG.out (by rw [HO.out];exact (kEI _ _).2 hce))
        have hbin:∀ w,(binOp .neq 46 (.agg #[.string s.v,.int .i64 s.c]) (.agg #[.string t.v,.int .i64 t.c])).run Tryz.prog w= .ok (.bool false) w:=fun w=>by rw [kJX,HEq.out,he,beq_iff_eq.2 hce];rfl
        clear hce hc
        go_wp2_with fail
        go_region
        all_goals
         go_wp2_with fail
         go_roundw
         case rel=>exact ⟨k+1,by omega,by omega,by go_num,HGo,(((hB.alloc hB.size _).alloc (hB.alloc hB.size _).size _).drew)⟩
         case measure=>simp [intOf];omega
      · have HF:Hid (kCI x y=1):=hJ (HD.out 1 (by decide) (by rw [HO.out];unfold ordI;rw [if_neg hc,if_pos (by omega)]))
        have hbin:∀ w,(binOp .neq 46 (.agg #[.string s.v,.int .i64 s.c]) (.agg #[.string t.v,.int .i64 t.c])).run Tryz.prog w= .ok (.bool true) w:=fun w=>by rw [kJX,HEq.out,he,beq_eq_false_iff_ne.2 hce];rfl
        clear hce hc
        go_wp2_with fail
        go_region
        all_goals
         go_wp2_with fail
         go_ret;exact ⟨by rw [HF.out];rfl,B0.out.trans ((((hB.alloc hB.size _).alloc (hB.alloc hB.size _).size _).drew).mono B0.out.size)⟩
    · have he:(s.v.toList==t.v.toList)=false:=by simpa using he
      have HF:Hid (kCI x y=1):=hJ (HD.out 1 (by decide) (HL3.out hl he));have hbin:∀ w,(binOp .neq 46 (.agg #[.string s.v,.int .i64 s.c]) (.agg #[.string t.v,.int .i64 t.c])).run Tryz.prog w= .ok (.bool true) w:=fun w=>by rw [kJX,HEq.out,he];rfl
      go_wp2_with fail
      go_region
      all_goals
       go_wp2_with fail
       go_ret;exact ⟨by rw [HF.out];rfl,B0.out.trans ((((hB.alloc hB.size _).alloc (hB.alloc hB.size _).size _).drew).mono B0.out.size)⟩
  · have HE:Hid (kAT x.terms y.terms=ordI n n2):=hJ (by
     rw [cmp_end (k:=k) (by rw [HL.out,HL2.out];omega) (by rw [HL.out];omega) (by rw [HL2.out];omega) HT.out,HL.out,HL2.out])
    have e0:=kAG xa0 _ hB;have f0:=kAG xb0 _ hB;have HW:=hJ (B0.out.trans (hB.mono B0.out.size));rcases Nat.lt_trichotomy n n2 with g | g | g
    · have HF:Hid (kCI x y= -1):=hJ (by rw [HN.out,HE.out,ordI_lt (by omega)];rfl)
      have p1:decide ((k:Int)<(n:Int))=false:=decide_eq_false (by omega);have p2:decide ((n:Int)<(n2:Int))=true:=decide_eq_true (by omega)
      go_wp2_with fail
      go_ret;exact ⟨by rw [HF.out];rfl,HW.out⟩
    · subst g
      have HF:Hid (kCI x y=ordI x.const y.const):=hJ (by rw [HN.out,HE.out,(kEI _ _).2 rfl,if_pos rfl]);have p1:decide ((k:Int)<(n:Int))=false:=decide_eq_false (by omega);have p2:decide ((n:Int)<(n:Int))=false:=decide_eq_false (by omega);rcases Int.lt_trichotomy x.const y.const with r | r | r
      · have HF:Hid (kCI x y= -1):=hJ (by rw [HF.out];unfold ordI;rw [if_pos r])
        have p3:decide (x.const<y.const)=true:=decide_eq_true r
        go_wp2_with fail
        go_ret;exact ⟨by rw [HF.out];rfl,HW.out⟩
      · have HF:Hid (kCI x y=0):=hJ (by rw [HF.out];exact (kEI _ _).2 r)
        have p3:decide (x.const<y.const)=false:=decide_eq_false (by omega);have p4:decide (y.const<x.const)=false:=decide_eq_false (by omega)
        go_wp2_with fail
        go_ret;exact ⟨by rw [HF.out];rfl,HW.out⟩
      · have HF:Hid (kCI x y=1):=hJ (by rw [HF.out];unfold ordI;rw [if_neg (by omega),if_pos r])
        have p3:decide (x.const<y.const)=false:=decide_eq_false (by omega);have p4:decide (y.const<x.const)=true:=decide_eq_true r
        go_wp2_with fail
        go_ret;exact ⟨by rw [HF.out];rfl,HW.out⟩
    · have HF:Hid (kCI x y=1):=hJ (by rw [HN.out,HE.out,ordI_gt (by omega)];rfl)
      have p5:decide ((k:Int)<(n2:Int))=false:=decide_eq_false (by omega);have p2:decide ((n:Int)<(n2:Int))=false:=decide_eq_false (by omega);have p3:((n:Int)==(n2:Int))=false:=beq_eq_false_iff_ne.2 (by omega);have p4:decide ((n2:Int)<(n:Int))=true:=decide_eq_true (by omega);have p1:decide ((k:Int)<(n:Int))=true:=decide_eq_true (by omega)
      go_wp2_with fail
      go_ret;exact ⟨by rw [HF.out];rfl,HW.out⟩
theorem ref04_Equal {S T:Blk} {x y:Lin} {cs ds:List Value} {w:World} (h:RLin.rd S w cs x) (h2:RLin.rd T w ds y) :
 Calls Tryz.prog 58 #[.agg cs.toArray,.agg ds.toArray] w fun e w'=>e= .returned (.bool (kCX x y))∧Below w.heap.size w w':=by
 obtain ⟨t,rfl,a,c,rfl,hs⟩:=h;obtain ⟨t2,rfl,a2,c2,rfl,hs2⟩:=h2;obtain ⟨B0,ya,yb,hW0⟩:=box2 w 49 [.int .i64 x.const,.slice a x.terms.length c] 49 [.int .i64 y.const,.slice a2 y.terms.length c2];have xa0:=box0 ya 0 _ rfl;have xa1:=box0 ya 1 _ rfl;have xb0:=box0 yb 0 _ rfl;have xb1:=box0 yb 1 _ rfl;clear ya yb;have HC:=hJ (ref04_Compare (x:=x) (y:=y) (S:=S) (T:=T) ⟨_,rfl,a,c,rfl,hs.below B0.out⟩ ⟨_,rfl,a2,c2,rfl,hs2.below B0.out⟩);have HN:=hJ (eqLin_cmp x y);clear hs hs2;generalize kCI x y=d at *;go_enter func58,ntmps58
 go_wp2_with fail
 refine (HC.out).mono ?_;rintro e w1 ⟨rfl,hb⟩
 go_wp2_with fail
 go_ret;exact ⟨by rw [← HN.out];rfl,B0.out.trans (hb.mono B0.out.size)⟩
theorem neqB {a b:List UInt8} (h:(a==b)=true):(a != b)=false:=by unfold bne;rw [h];rfl
theorem neqB' {a b:List UInt8} (h:(a==b)=false):(a != b)=true:=by unfold bne;rw [h];rfl
theorem ref11_Equal {S T:Blk} {x y:Shp} {cs ds:List Value} {w:World} (h:RShp.rd S w cs x) (h2:RShp.rd T w ds y) :
 Calls Tryz.prog 115 #[.agg cs.toArray,.agg ds.toArray] w fun e w'=>e= .returned (.bool (kHG x y))∧Below w.heap.size w w':=by
 obtain ⟨t,rfl,a,c,rfl,hs⟩:=h;obtain ⟨t2,rfl,a2,c2,rfl,hs2⟩:=h2;have hn:=hs.small;have hn2:=hs2.small;generalize hL:x.dims.length=n at *;generalize hL2:y.dims.length=n2 at *;obtain ⟨B0,ya,yb,hW0⟩:=box2 w 52 [.string x.row,.slice a n c] 52 [.string y.row,.slice a2 n2 c2];have xa0:=box0 ya 0 _ rfl;have xa1:=box0 ya 1 _ rfl;have xb0:=box0 yb 0 _ rfl;have xb1:=box0 yb 1 _ rfl;clear ya yb;have H:=hJ (hs.below B0.out);have H2:=hJ (hs2.below B0.out);have HL:=hJ hL;have HL2:=hJ hL2;have HN:Hid (kHG x y=((x.row.toList==y.row.toList) && kA2 kCX x.dims y.dims)):=hJ rfl;clear hs hs2 hL hL2;by_cases hc:(x.row.toList==y.row.toList)=true
 case neg =>
  have hc:(x.row.toList==y.row.toList)=false:=by simpa using hc
  have hcn:=neqB' hc;have HF:Hid (kHG x y=false):=hJ (by rw [HN.out,hc];rfl);go_enter func115,ntmps115
  go_wp2_with fail
  go_ret;exact ⟨by rw [HF.out];rfl,B0.out⟩
 have hcn:=neqB hc;have HN:Hid (kHG x y=kA2 kCX x.dims y.dims):=hJ (by rw [HN.out,hc];rfl);by_cases hnn:n=n2
 case neg =>
  have HF:Hid (kHG x y=false):=hJ (by rw [HN.out];exact eq_len _ (by rw [HL.out,HL2.out];exact hnn));have q:((n:Int) != (n2:Int))=true:=bne_iff_ne.2 (by omega);go_enter func115,ntmps115
  go_wp2_with fail
  go_ret;exact ⟨by rw [HF.out];rfl,B0.out⟩
 subst hnn;have q:((n:Int) != (n:Int))=false:=by simp
 go_enter func115,ntmps115
 go_wp2_with fail
 generalize ((w.alloc (.cells #[.string x.row,.slice a n c] 52)).alloc (.cells #[.string y.row,.slice a2 n c2] 52))=W at *
 go_loopw [5] (fun i wr=>∃ k:Nat,k≤n∧i= .int .i64 k∧Hid (∀ j,j<k→kCX (x.dims.getD j default) (y.dims.getD j default)=true)∧Below W.heap.size W wr) (fun i _=>n - (intOf i).toNat)
 case atStart=>exact ⟨0,Nat.zero_le _,rfl,fun j hj=>absurd hj (by omega),Below.refl _ _⟩
 case round =>
  obtain ⟨k,hk,rfl,HT,hB⟩:=hrel;have e1:=kAG xa1 _ hB;have f1:=kAG xb1 _ hB;have HW:=hJ (B0.out.trans (hB.mono B0.out.size));by_cases hlt:k<n
  · obtain ⟨b,off,rfl,hbW,_⟩:=H.out.form k hlt
    obtain ⟨b2,off2,rfl,hbW2,_⟩:=H2.out.form k hlt;have HK:Hid (k<x.dims.length):=hJ (by rw [HL.out];exact hlt);have HK2:Hid (k<y.dims.length):=hJ (by rw [HL2.out];exact hlt);have HR:=hJ (H.out.below hB);have HR2:=hJ (H2.out.below hB);obtain ⟨t,hr,hd,c0,c1⟩:=HR.out.lin k hlt;obtain ⟨t2,hr2,hd2,d0,d1⟩:=HR2.out.lin k hlt;have HH:Hid (kCX (x.dims.getD k default) (y.dims.getD k default)=false→kHG x y=false):=hJ (fun q=>by rw [HN.out];exact eq_stop _ HK.out HK2.out q);have HG:Hid (kCX (x.dims.getD k default) (y.dims.getD k default)=true→∀ j,j<k+1→kCX (x.dims.getD j default) (y.dims.getD j default)=true):=hJ (fun q=>upto HT.out q);have HRd:=hJ hr;have HRd2:=hJ hr2;clear hd hr hd2 hr2 xa0 xa1 xb0 xb1;generalize x.dims.getD k default=s at *;generalize y.dims.getD k default=t at *;have HC:=hJ (fun (u:Later wr)=>ref04_Equal (RLin.below HRd.out u.b) (RLin.below HRd2.out u.b));have c0:=Later.cell c0;have c1:=Later.cell c1;have d0:=Later.cell d0;have d1:=Later.cell d1;have e1:=Later.cell e1;have f1:=Later.cell f1;by_cases hq:kCX s t=true
    · have HGo:=hJ (HG.out hq)
      rw [hq] at HC;clear hq
      go_wp2_with fail
      refine kAA (by kernel_rfl) (by kernel_rfl) ?_
      repeat (go_big_quiet_step (first | fail | exact Later.call (HC.out _)))
      refine wpQuiet_nil ?_;rintro _ ⟨t9,rfl⟩
      go_wp2_with fail
      go_roundw
      case rel=>exact ⟨k+1,by omega,by go_num,HGo,hB.trans (t9.b.mono hB.size)⟩
      case measure=>simp [intOf];omega
    · have hq:kCX s t=false:=by simpa using hq
      have HF:=hJ (HH.out hq);rw [hq] at HC;clear hq
      go_wp2_with fail
      refine kAA (by kernel_rfl) (by kernel_rfl) ?_
      repeat (go_big_quiet_step (first | fail | exact Later.call (HC.out _)))
      refine wpQuiet_nil ?_;rintro _ ⟨t9,rfl⟩
      go_wp2_with fail
      go_ret;exact ⟨by rw [HF.out];rfl,HW.out.trans (t9.b.mono HW.out.size)⟩
  · have HF:Hid (kHG x y=true):=hJ (by rw [HN.out];exact eq_done _ (by rw [HL.out,HL2.out]) fun j hj=>HT.out j (by rw [HL.out] at hj;omega))
    go_wp2_with fail
    go_ret;exact ⟨by rw [HF.out];rfl,HW.out⟩
theorem ref12_Equal {S T:Blk} {x y:Typ} {cs ds:List Value} {w:World} (h:RTyp.rd S w cs x) (h2:RTyp.rd T w ds y) :
 Calls Tryz.prog 57 #[.agg cs.toArray,.agg ds.toArray] w fun e w'=>e= .returned (.bool (kEO x y))∧Below w.heap.size w w':=by
 obtain ⟨t,rfl,a,c,rfl,hs⟩:=h;obtain ⟨t2,rfl,a2,c2,rfl,hs2⟩:=h2;obtain ⟨B0,ya,yb,hW0⟩:=box2 w 54 [.string x.elem,.string x.shape.row,.slice a x.shape.dims.length c] 54 [.string y.elem,.string y.shape.row,.slice a2 y.shape.dims.length c2];have xa0:=box0 ya 0 _ rfl;have xa1:=box0 ya 1 _ rfl;have xa2:=box0 ya 2 _ rfl;have xb0:=box0 yb 0 _ rfl;have xb1:=box0 yb 1 _ rfl;have xb2:=box0 yb 2 _ rfl;clear ya yb;have HC:=hJ (ref11_Equal (x:=x.shape) (y:=y.shape) (S:=S) (T:=T) (cs:=[.string x.shape.row,.slice a x.shape.dims.length c]) (ds:=[.string y.shape.row,.slice a2 y.shape.dims.length c2]) ⟨_,rfl,a,c,rfl,hs.below B0.out⟩ ⟨_,rfl,a2,c2,rfl,hs2.below B0.out⟩);have HN:Hid (kEO x y=((x.elem.toList==y.elem.toList) && kHG x.shape y.shape)):=hJ rfl;clear hs hs2;by_cases hc:(x.elem.toList==y.elem.toList)=true
 · have HF:Hid (kEO x y=kHG x.shape y.shape):=hJ (by rw [HN.out,hc];rfl)
   go_enter func57,ntmps57
   go_wp2_with fail
   refine (HC.out).mono ?_;rintro e w1 ⟨rfl,hb⟩
   go_wp2_with fail
   go_ret;exact ⟨by rw [HF.out];rfl,B0.out.trans (hb.mono B0.out.size)⟩
 · have hc:(x.elem.toList==y.elem.toList)=false:=by simpa using hc
   have HF:Hid (kEO x y=false):=hJ (by rw [HN.out,hc];rfl);go_enter func57,ntmps57
   go_wp2_with fail
   go_ret;exact ⟨by rw [HF.out];rfl,B0.out⟩
def kIJ (a b:Ent):Bool:=seq a.name b.name && kHV a.scheme b.scheme
def kJD (a b:Ifc):Bool:=seq a.module_ b.module_ && kA2 kIJ a.entries b.entries
theorem eqEnt_iff (a b:Ent):kIJ a b=true ↔ a=b:=by
 unfold kIJ;rw [Bool.and_eq_true,kA3,eqSch_iff]
 constructor
 · rintro ⟨h1,h2⟩;cases a;cases b;simp_all
 · rintro rfl;exact ⟨rfl,rfl⟩
theorem eqIfc_iff (a b:Ifc):kJD a b=true ↔ a=b:=by
 unfold kJD;rw [Bool.and_eq_true,kA3,kEB _ eqEnt_iff]
 constructor
 · rintro ⟨h1,h2⟩;cases a;cases b;simp_all
 · rintro rfl;exact ⟨rfl,rfl⟩
theorem signature_Equal_1 {S T:Blk} {x y:Ent} {cs ds:List Value} {w:World} (h:REnt.rd S w cs x) (h2:REnt.rd T w ds y) :
 Calls Tryz.prog 38 #[.agg cs.toArray,.agg ds.toArray] w fun e w'=>e= .returned (.bool (kIJ x y))∧Below w.heap.size w w':=by
 obtain ⟨_,rfl,hx⟩:=h;obtain ⟨_,rfl,hy⟩:=h2;have HX:=hJ hx;have HY:=hJ hy;obtain ⟨_,_,_,rfl,⟨ap,cp,rfl,_⟩,⟨at_,ct,rfl,_⟩,⟨aq,cq,rfl,_⟩⟩:=hx;obtain ⟨_,_,_,rfl,⟨ap2,cp2,rfl,_⟩,⟨at2,ct2,rfl,_⟩,⟨aq2,cq2,rfl,_⟩⟩:=hy;obtain ⟨B0,ya,yb,hW0⟩:=box2 w 60 [.string x.name,.slice ap x.scheme.params.length cp,.string x.scheme.result.elem,.string x.scheme.result.shape.row,.slice at_ x.scheme.result.shape.dims.length ct,.slice aq x.scheme.wh.length cq] 60 [.string y.name,.slice ap2 y.scheme.params.length cp2,.string y.scheme.result.elem,.string y.scheme.result.shape.row,.slice at2 y.scheme.result.shape.dims.length ct2,.slice aq2 y.scheme.wh.length cq2];have xa0:=box0 ya 0 _ rfl;have xa1:=box0 ya 1 _ rfl;have xa2:=box0 ya 2 _ rfl;have xa3:=box0 ya 3 _ rfl;have xa4:=box0 ya 4 _ rfl;have xa5:=box0 ya 5 _ rfl;have xb0:=box0 yb 0 _ rfl;have xb1:=box0 yb 1 _ rfl;have xb2:=box0 yb 2 _ rfl;have xb3:=box0 yb 3 _ rfl;have xb4:=box0 yb 4 _ rfl;have xb5:=box0 yb 5 _ rfl;clear ya yb;have HC:=hJ (types_EqualScheme (RSch.below HX.out B0.out) (RSch.below HY.out B0.out));have HN:Hid (kIJ x y=((x.name.toList==y.name.toList) && kHV x.scheme y.scheme)):=hJ rfl;by_cases hc:(x.name.toList==y.name.toList)=true
 · have HF:Hid (kIJ x y=kHV x.scheme y.scheme):=hJ (by rw [HN.out,hc];rfl)
   go_enter func38,ntmps38
   go_wp2_with fail
   refine (HC.out).mono ?_;rintro e w1 ⟨rfl,hb⟩
   go_wp2_with fail
   go_ret;exact ⟨by rw [HF.out];rfl,B0.out.trans (hb.mono B0.out.size)⟩
 · have hc:(x.name.toList==y.name.toList)=false:=by simpa using hc
   have HF:Hid (kIJ x y=false):=hJ (by rw [HN.out,hc];rfl);go_enter func38,ntmps38
   go_wp2_with fail
   go_ret;exact ⟨by rw [HF.out];rfl,B0.out⟩
theorem signature_byName {S T:Blk} {x y:Ent} {cs ds:List Value} {w:World} (h:REnt.rd S w cs x) (h2:REnt.rd T w ds y) :
 Calls Tryz.prog 33 #[.agg cs.toArray,.agg ds.toArray] w fun e w'=>e= .returned (.int .i64 (cmpS x.name y.name))∧Below w.heap.size w w':=by
 obtain ⟨_,rfl,hx⟩:=h;obtain ⟨_,rfl,hy⟩:=h2;obtain ⟨_,_,_,rfl,⟨ap,cp,rfl,_⟩,⟨at_,ct,rfl,_⟩,⟨aq,cq,rfl,_⟩⟩:=hx;obtain ⟨_,_,_,rfl,⟨ap2,cp2,rfl,_⟩,⟨at2,ct2,rfl,_⟩,⟨aq2,cq2,rfl,_⟩⟩:=hy;obtain ⟨B0,ya,yb,hW0⟩:=box2 w 60 [.string x.name,.slice ap x.scheme.params.length cp,.string x.scheme.result.elem,.string x.scheme.result.shape.row,.slice at_ x.scheme.result.shape.dims.length ct,.slice aq x.scheme.wh.length cq] 60 [.string y.name,.slice ap2 y.scheme.params.length cp2,.string y.scheme.result.elem,.string y.scheme.result.shape.row,.slice at2 y.scheme.result.shape.dims.length ct2,.slice aq2 y.scheme.wh.length cq2];have xa0:=box0 ya 0 _ rfl;have xa1:=box0 ya 1 _ rfl;have xa2:=box0 ya 2 _ rfl;have xa3:=box0 ya 3 _ rfl;have xa4:=box0 ya 4 _ rfl;have xa5:=box0 ya 5 _ rfl;have xb0:=box0 yb 0 _ rfl;have xb1:=box0 yb 1 _ rfl;have xb2:=box0 yb 2 _ rfl;have xb3:=box0 yb 3 _ rfl;have xb4:=box0 yb 4 _ rfl;have xb5:=box0 yb 5 _ rfl;clear ya yb;go_enter func33,ntmps33
 go_wp2_with fail
 refine (strings_cmp _ _ _).mono ?_;rintro e _ ⟨rfl,rfl⟩
 go_wp2_with fail
 go_ret;exact ⟨rfl,B0.out⟩
theorem signature_Equal {S T:Blk} {x y:Ifc} {a a2:Option Addr} {c c2:Nat} {w:World} (hs:Sl REnt S w a x.entries.length c x.entries) (hs2:Sl REnt T w a2 y.entries.length c2 y.entries) :
 Calls Tryz.prog 17 #[.agg #[.string x.module_,.slice a x.entries.length c],.agg #[.string y.module_,.slice a2 y.entries.length c2]] w fun e w'=>e= .returned (.bool (kJD x y))∧Below w.heap.size w w':=by
 obtain ⟨B0,ya,yb,hW0⟩:=box2 w 29 [.string x.module_,.slice a x.entries.length c] 29 [.string y.module_,.slice a2 y.entries.length c2];have xa0:=box0 ya 0 _ rfl;have xa1:=box0 ya 1 _ rfl;have xb0:=box0 yb 0 _ rfl;have xb1:=box0 yb 1 _ rfl;clear ya yb;have HC:=hJ (equal_Ent x.entries y.entries a a2 _ _ c c2 _ (hs.below B0.out) (hs2.below B0.out) _ (kBG func38 rfl rfl) kIJ (fun W x y cs ds _ _ _ h1 h2=>signature_Equal_1 h1 h2));have HN:Hid (kJD x y=((x.module_.toList==y.module_.toList) && kA2 kIJ x.entries y.entries)):=hJ rfl;clear hs hs2;by_cases hc:(x.module_.toList==y.module_.toList)=true
 · have HF:Hid (kJD x y=kA2 kIJ x.entries y.entries):=hJ (by rw [HN.out,hc];rfl)
   go_enter func17,ntmps17
   go_wp2_with fail
   refine (HC.out).mono ?_;rintro e w1 ⟨rfl,hb⟩
   go_wp2_with fail
   go_ret;exact ⟨by rw [HF.out];rfl,B0.out.trans (hb.mono B0.out.size)⟩
 · have hc:(x.module_.toList==y.module_.toList)=false:=by simpa using hc
   have HF:Hid (kJD x y=false):=hJ (by rw [HN.out,hc];rfl);go_enter func17,ntmps17
   go_wp2_with fail
   go_ret;exact ⟨by rw [HF.out];rfl,B0.out⟩
def kAP:List Coef→Str→Int
 | [],_=>0
 | t :: l,v=>if seq t.v v then t.c else kAP l v
def Srt (l:List Coef):Prop:=l.Pairwise fun a b=>slt a.v b.v=true
def Nz (l:List Coef):Prop:=∀ t ∈ l,t.c≠0
def Bd (n:Int) (l:List Coef):Prop:=∀ t ∈ l,-n≤t.c∧t.c≤n
def kBE (s:Str) (c:Int) (p:Bool × List Coef) (t:Coef):Bool × List Coef :=
 if seq t.v s then (true,(if !p.1 && slt s t.v then p.2++[⟨s,c⟩] else p.2)++[⟨t.v,t.c+c⟩])
 else (p.1 || slt s t.v,(if !p.1 && slt s t.v then p.2++[⟨s,c⟩] else p.2)++[t])
def plusRun (s:Str) (c:Int) (l:List Coef):Bool × List Coef:=l.foldl (kBE s c) (false,[])
def plusF (l:List Coef) (s:Str) (c:Int):List Coef:=if (plusRun s c l).1 then (plusRun s c l).2 else (plusRun s c l).2++[⟨s,c⟩]
def nzB (t:Coef):Bool:=t.c != 0
def plus (l:List Coef) (s:Str) (c:Int):List Coef:=(plusF l s c).filter nzB
def ins (s:Str) (c:Int):List Coef→List Coef
 | []=>[⟨s,c⟩]
 | t :: l=>if slt s t.v then ⟨s,c⟩ :: t :: l else if seq t.v s then ⟨t.v,t.c+c⟩ :: l else t :: ins s c l
theorem slt_ne {a b:Str} (h:slt a b=true):seq a b=false:=by
 rw [Bool.eq_false_iff];intro e;rw [(kA3 a b).1 e,kE1] at h;cases h
theorem slt_ne' {a b:Str} (h:slt a b=true):seq b a=false:=by rw [kH3];exact slt_ne h
theorem run_put (s:Str) (c:Int):∀ (l:List Coef) (acc:List Coef),(∀ t ∈ l,slt s t.v=true)→l.foldl (kBE s c) (true,acc)=(true,acc++l)
 | [],acc,_=>by simp
 | t :: l,acc,h=>by
   have ht:=h t (List.mem_cons_self ..);rw [List.foldl_cons]
   have:kBE s c (true,acc) t=(true,acc++[t]):=by
    unfold kBE;rw [slt_ne' ht];simp
   rw [this,run_put s c l _ (fun u hu=>h u (List.mem_cons_of_mem _ hu))];simp
theorem run_srt (s:Str) (c:Int):∀ (l:List Coef) (acc:List Coef),Srt l→(let p:=l.foldl (kBE s c) (false,acc);if p.1 then p.2 else p.2++[⟨s,c⟩])=acc++ins s c l
 | [],acc,_=>by simp [ins]
 | t :: l,acc,h=>by
   have h1:=(List.pairwise_cons.1 h).1;have h2:=(List.pairwise_cons.1 h).2;rw [List.foldl_cons];by_cases hs:slt s t.v=true
   · have:kBE s c (false,acc) t=(true,acc++[⟨s,c⟩]++[t]):=by
      unfold kBE;rw [slt_ne' hs,hs];simp
     rw [this,run_put s c l _ (fun u hu=>kEF hs (h1 u hu))];simp [ins,hs]
   · have hs:slt s t.v=false:=by simpa using hs
     by_cases he:seq t.v s=true
     · have:kBE s c (false,acc) t=(true,acc++[⟨t.v,t.c+c⟩]):=by
        unfold kBE;rw [he,hs];simp
       have hv:=(kA3 _ _).1 he;rw [this,run_put s c l _ (fun u hu=>hv ▸ h1 u hu)];simp [ins,hs,he]
     · have he:seq t.v s=false:=by simpa using he
       have:kBE s c (false,acc) t=(false,acc++[t]):=by
        unfold kBE;rw [he,hs];simp
       rw [this,run_srt s c l _ h2];simp [ins,hs,he]
theorem kGA {l:List Coef} (h:Srt l) (s:Str) (c:Int):plusF l s c=ins s c l:=by
 have:=run_srt s c l [] h;rw [List.nil_append] at this;exact this
theorem ins_mem (s:Str) (c:Int):∀ (l:List Coef) (t:Coef),t ∈ ins s c l→t.v=s∨t ∈ l
 | [],t,h=>by simp [ins] at h;subst h;exact .inl rfl
 | u :: l,t,h=>by
   unfold ins at h
   split at h
   · rcases List.mem_cons.1 h with rfl | h
     · exact .inl rfl
     · exact .inr h
   · split at h
     · next he =>
       rcases List.mem_cons.1 h with rfl | h
       · exact .inl ((kA3 _ _).1 he)
       · exact .inr (List.mem_cons_of_mem _ h)
     · rcases List.mem_cons.1 h with rfl | h
       · exact .inr (List.mem_cons_self ..)
       · rcases ins_mem s c l t h with q | q
         · exact .inl q
         · exact .inr (List.mem_cons_of_mem _ q)
theorem ins_srt (s:Str) (c:Int):∀ (l:List Coef),Srt l→Srt (ins s c l)
 | [],_=>by simp [ins,Srt]
 | t :: l,h=>by
   have h1:=(List.pairwise_cons.1 h).1;have h2:=(List.pairwise_cons.1 h).2;unfold ins
   split
   · next hs=>exact List.pairwise_cons.2 ⟨fun u hu=>by
      rcases List.mem_cons.1 hu with rfl | hu
      · exact hs
      · exact kEF hs (h1 u hu),h⟩
   · next hs =>
     split
     · exact List.pairwise_cons.2 ⟨h1,h2⟩
     · next he =>
       refine List.pairwise_cons.2 ⟨fun u hu=>?_,ins_srt s c l h2⟩;rcases ins_mem s c l u hu with q | q
       · rw [q]
         cases hq:slt t.v s with
         | true=>rfl
         | false=>exact absurd ((kA3 _ _).2 (kE4 hq (by simpa using hs))) he
       · exact h1 u q
theorem kFC:∀ (l:List Coef) (v:Str),(∀ t ∈ l,seq t.v v=false)→kAP l v=0
 | [],_,_=>rfl
 | t :: l,v,h=>by
   unfold kAP;rw [h t (List.mem_cons_self ..)];exact kFC l v (fun u hu=>h u (List.mem_cons_of_mem _ hu))
theorem kEG {a b v:Str} (h:seq a b=true):seq a v=seq b v:=by rw [(kA3 a b).1 h]
theorem ins_coef (s:Str) (c:Int) (v:Str):∀ (l:List Coef),Srt l→kAP (ins s c l) v=kAP l v+if seq s v then c else 0
 | [],_=>by simp [ins,kAP]
 | t :: l,h=>by
   have h1:=(List.pairwise_cons.1 h).1;have h2:=(List.pairwise_cons.1 h).2;unfold ins
   split
   · next hs =>
     by_cases hv:seq s v=true
     · have:kAP (t :: l) v=0:=kFC _ _ (fun u hu=>by
        rw [← kH3,← kEG hv,];rcases List.mem_cons.1 hu with rfl | hu
        · exact slt_ne hs
        · exact slt_ne (kEF hs (h1 u hu)))
       rw [this,hv];simp [kAP,hv]
     · have hv:seq s v=false:=by simpa using hv
       rw [hv]
       conv=>lhs;unfold kAP
       rw [hv];simp
   · split
     · next he =>
       conv=>lhs;unfold kAP
       conv=>rhs;unfold kAP
       show (if seq t.v v then t.c+c else kAP l v)=_
       rw [kEG he]
       split <;> simp
     · next he =>
       conv=>lhs;unfold kAP
       conv=>rhs;unfold kAP
       rw [ins_coef s c v l h2]
       split
       · next hv =>
         have:seq s v=false:=by
          rw [Bool.eq_false_iff];intro q;exact he ((kA3 _ _).2 (((kA3 _ _).1 hv).trans ((kA3 _ _).1 q).symm))
         rw [this];simp
       · rfl
theorem kJB (v:Str):∀ (l:List Coef),Srt l→kAP (l.filter nzB) v=kAP l v
 | [],_=>rfl
 | t :: l,h=>by
   have h1:=(List.pairwise_cons.1 h).1;have h2:=(List.pairwise_cons.1 h).2;rw [List.filter_cons]
   split
   · unfold kAP;rw [kJB v l h2]
   · next hz =>
     have hz:t.c=0:=by simpa [nzB] using hz
     conv=>rhs;unfold kAP
     rw [kJB v l h2]
     split
     · next hv=>rw [hz];exact kFC _ _ (fun u hu=>by rw [kH3,← kEG hv];exact slt_ne (h1 u hu))
     · rfl
theorem filter_srt {l:List Coef} (h:Srt l):Srt (l.filter nzB):=List.Pairwise.sublist List.filter_sublist h
theorem filter_nz (l:List Coef):Nz (l.filter nzB):=fun t ht=>by
 have:=(List.mem_filter.1 ht).2
 simpa [nzB] using this
theorem kJW {l:List Coef} (h:Srt l) (s:Str) (c:Int):Srt (plus l s c):=by
 unfold plus;rw [kGA h];exact filter_srt (ins_srt s c l h)
theorem plus_nz (l:List Coef) (s:Str) (c:Int):Nz (plus l s c):=filter_nz _
theorem plus_coef {l:List Coef} (h:Srt l) (s:Str) (c:Int) (v:Str):kAP (plus l s c) v=kAP l v+if seq s v then c else 0:=by
 unfold plus;rw [kGA h,kJB v _ (ins_srt s c l h),ins_coef s c v l h]
theorem kGK {l:List Coef} (h:Srt l) {t:Coef} (ht:t ∈ l):kAP l t.v=t.c:=by
 induction l with
 | nil=>cases ht
 | cons u l ih =>
   have h1:=(List.pairwise_cons.1 h).1;have h2:=(List.pairwise_cons.1 h).2;unfold kAP;rcases List.mem_cons.1 ht with rfl | ht
   · rw [seq_refl];rfl
   · rw [slt_ne (h1 t ht)];exact ih h2 ht
theorem mem_coefAt {l:List Coef} {v:Str} (h:kAP l v≠0):∃ t ∈ l,t.v=v:=by
 induction l with
 | nil=>exact absurd rfl h
 | cons u l ih =>
   unfold kAP at h
   split at h
   · next q=>exact ⟨u,List.mem_cons_self ..,(kA3 _ _).1 q⟩
   · obtain ⟨t,ht,e⟩:=ih h
     exact ⟨t,List.mem_cons_of_mem _ ht,e⟩
theorem srt_ext:∀ (l l2:List Coef),Srt l→Srt l2→Nz l→Nz l2→(∀ v,kAP l v=kAP l2 v)→l=l2
 | [],[],_,_,_,_,_=>rfl
 | [],b :: l2,_,h2,_,n2,e=>by
   have:=e b.v;rw [kGK h2 (List.mem_cons_self ..)] at this;exact absurd this.symm (n2 b (List.mem_cons_self ..))
 | a :: l,[],h1,_,n1,_,e=>by
   have:=e a.v;rw [kGK h1 (List.mem_cons_self ..)] at this;exact absurd this (n1 a (List.mem_cons_self ..))
 | a :: l,b :: l2,h1,h2,n1,n2,e=>by
   have p1:=(List.pairwise_cons.1 h1).1;have p2:=(List.pairwise_cons.1 h2).1;have ea:=e a.v;rw [kGK h1 (List.mem_cons_self ..)] at ea;have eb:=e b.v;rw [kGK h2 (List.mem_cons_self ..)] at eb;obtain ⟨ta,hta,va⟩:=mem_coefAt (l:=b :: l2) (v:=a.v) (by rw [← ea];exact n1 a (List.mem_cons_self ..));obtain ⟨tb,htb,vb⟩:=mem_coefAt (l:=a :: l) (v:=b.v) (by rw [eb];exact n2 b (List.mem_cons_self ..))
   have hv:a.v=b.v:=by
    rcases List.mem_cons.1 hta with rfl | hta
    · exact va.symm
    · rcases List.mem_cons.1 htb with rfl | htb
      · exact vb
      · have q1:=p2 ta hta
        have q2:=p1 tb htb;rw [va] at q1;rw [vb] at q2;rw [kF0 q1] at q2;cases q2
   have hc:a.c=b.c:=by rw [ea,hv];exact kGK h2 (List.mem_cons_self ..)
   obtain rfl:a=b:=by cases a;cases b;simp only at hv hc;subst hv hc;rfl
   congr 1
   refine srt_ext l l2 (List.pairwise_cons.1 h1).2 (List.pairwise_cons.1 h2).2 (fun t ht=>n1 t (List.mem_cons_of_mem _ ht)) (fun t ht=>n2 t (List.mem_cons_of_mem _ ht)) (fun v=>?_);by_cases hq:seq a.v v=true
   · rw [kFC l v (fun u hu=>by rw [kH3,← kEG hq];exact slt_ne (p1 u hu)),kFC l2 v (fun u hu=>by rw [kH3,← kEG hq];exact slt_ne (p2 u hu))]
   · have:=e v
     unfold kAP at this;have hq:seq a.v v=false:=by simpa using hq
     rw [hq] at this
     simpa using this
theorem ins_len (s:Str) (c:Int):∀ l:List Coef,(ins s c l).length≤l.length+1
 | []=>by simp [ins]
 | t :: l=>by
   unfold ins;have:=ins_len s c l
   split
   · simp
   · split
     · simp
     · simp;exact this
theorem plus_len {l:List Coef} (h:Srt l) (s:Str) (c:Int):(plus l s c).length≤l.length+1:=by
 unfold plus;rw [kGA h];exact Nat.le_trans (List.length_filter_le ..) (ins_len s c l)
theorem ins_bd (s:Str) (c:Int) (n m:Int) (hc: -m≤c∧c≤m) (hn:0≤n) (hm:0≤m):∀ l:List Coef,Bd n l→Bd (n+m) (ins s c l)
 | [],_=>fun t ht=>by simp [ins] at ht;subst ht;simp only;omega
 | u :: l,h=>fun t ht=>by
   have hu:=h u (List.mem_cons_self ..);have hw:∀ t ∈ u :: l,-(n+m)≤t.c∧t.c≤n+m:=fun t ht=>by have:=h t ht;omega
   unfold ins at ht
   split at ht
   · rcases List.mem_cons.1 ht with rfl | ht
     · simp only;omega
     · exact hw t ht
   · split at ht
     · rcases List.mem_cons.1 ht with rfl | ht
       · simp only;omega
       · exact hw t (List.mem_cons_of_mem _ ht)
     · rcases List.mem_cons.1 ht with rfl | ht
       · exact hw _ (List.mem_cons_self ..)
       · exact ins_bd s c n m hc hn hm l (fun t ht=>h t (List.mem_cons_of_mem _ ht)) t ht
theorem plus_bd {l:List Coef} (h:Srt l) (s:Str) (c:Int) {n m:Int} (hb:Bd n l) (hc: -m≤c∧c≤m) (hn:0≤n) (hm:0≤m):Bd (n+m) (plus l s c):=by
 unfold plus;rw [kGA h];exact fun t ht=>ins_bd s c n m hc hn hm l hb t (List.mem_filter.1 ht).1
def kC7 (l:List Coef) (x:List Coef) (k:Int):List Coef:=x.foldl (fun a t=>plus a t.v (k * t.c)) l
def kG6 (l x:Lin) (k:Int):Lin:=⟨l.const+k * x.const,kC7 l.terms x.terms k⟩
theorem times_srt (x:List Coef) (k:Int):∀ l:List Coef,Srt l→Srt (kC7 l x k):=by
 induction x with
 | nil=>exact fun l h=>h
 | cons t x ih=>exact fun l h=>ih _ (kJW h _ _)
theorem times_nz (x:List Coef) (k:Int):∀ l:List Coef,Nz l→Nz (kC7 l x k):=by
 induction x with
 | nil=>exact fun l h=>h
 | cons t x ih=>exact fun l h=>ih _ (plus_nz _ _ _)
theorem times_len (x:List Coef) (k:Int):∀ l:List Coef,Srt l→(kC7 l x k).length≤l.length+x.length:=by
 induction x with
 | nil=>exact fun l h=>Nat.le_refl _
 | cons t x ih =>
   intro l h;have h1:=ih _ (kJW h t.v (k * t.c));have h2:=plus_len h t.v (k * t.c);rw [List.length_cons]
   show (kC7 (plus l t.v (k * t.c)) x k).length≤_
   omega
theorem mul_bd {k c n m:Int} (hk: -n≤k∧k≤n) (hc: -m≤c∧c≤m): -(n * m)≤k * c∧k * c≤n * m:=by
 have hn:0≤n:=by omega
 have hm:0≤m:=by omega
 have h1:k.natAbs≤n.toNat:=by omega
 have h2:c.natAbs≤m.toNat:=by omega
 have h3:(k * c).natAbs≤(n * m).toNat:=by
  rw [Int.natAbs_mul,Int.toNat_mul hn hm];exact Nat.mul_le_mul h1 h2
 have h4:0≤n * m:=Int.mul_nonneg hn hm;omega
theorem times_bd (x:List Coef) (k:Int) (hk: -1000000≤k∧k≤1000000) (hx:Bd 1000000 x):∀ (l:List Coef) (n:Int),0≤n→Srt l→Bd n l→Bd (n+x.length * 1000000000000) (kC7 l x k):=by
 induction x with
 | nil=>intro l n hn hs h;simpa [kC7] using h
 | cons t x ih =>
   intro l n hn hs h;have hc:=mul_bd hk (hx t (List.mem_cons_self ..));have h1:=ih (fun u hu=>hx u (List.mem_cons_of_mem _ hu)) (plus l t.v (k * t.c)) (n+1000000 * 1000000) (by omega) (kJW hs _ _) (plus_bd hs _ _ h hc hn (by decide));have e:n+1000000 * 1000000+(x.length:Int) * 1000000000000=n+((t :: x).length:Int) * 1000000000000:=by rw [List.length_cons];omega
   rw [e] at h1;exact h1
structure TotC {α :Type} (cmp: α → α →Int):Prop where
 zero:∀ a b,cmp a b=0 ↔ a=b
 anti:∀ a b,cmp b a= -cmp a b
 trans:∀ a b c,cmp a b<0→cmp b c<0→cmp a c<0
def SS {α :Type} (cmp: α → α →Int) (l:List α):Prop:=l.Pairwise fun a b=>cmp a b<0
def Le {α :Type} (cmp: α → α →Int) (l:List α):Prop:=l.Pairwise fun a b=>cmp a b≤0
def insU {α :Type} (cmp: α → α →Int) (x: α):List α →List α
 | []=>[x]
 | y :: l=>if cmp y x<0 then y :: insU cmp x l else if cmp y x=0 then y :: l else x :: y :: l
theorem insU_mem {α :Type} {cmp: α → α →Int} (t:TotC cmp) (x z: α):∀ l:List α,z ∈ insU cmp x l ↔ z=x∨z ∈ l
 | []=>by simp [insU]
 | y :: l=>by
   unfold insU
   split
   · rw [List.mem_cons,insU_mem t x z l,List.mem_cons]
     constructor
     · rintro (h | h | h)
       · exact .inr (.inl h)
       · exact .inl h
       · exact .inr (.inr h)
     · rintro (h | h | h)
       · exact .inr (.inl h)
       · exact .inl h
       · exact .inr (.inr h)
   · split
     · next h =>
       have:=(t.zero _ _).1 h;subst this;simp
     · simp
theorem insU_ss {α :Type} {cmp: α → α →Int} (t:TotC cmp) (x: α):∀ l:List α,SS cmp l→SS cmp (insU cmp x l)
 | [],_=>by simp [insU,SS]
 | y :: l,h=>by
   have h1:=(List.pairwise_cons.1 h).1;have h2:=(List.pairwise_cons.1 h).2;unfold insU
   split
   · next hy =>
     refine List.pairwise_cons.2 ⟨fun z hz=>?_,insU_ss t x l h2⟩;rcases (insU_mem t x z l).1 hz with rfl | q
     · exact hy
     · exact h1 z q
   · next hy =>
     split
     · exact h
     · next hz =>
       have hxy:cmp x y<0:=by have:=t.anti y x;omega
       refine List.pairwise_cons.2 ⟨fun z hz=>?_,h⟩;rcases List.mem_cons.1 hz with rfl | q
       · exact hxy
       · exact t.trans _ _ _ hxy (h1 z q)
theorem ss_ext {α :Type} {cmp: α → α →Int} (t:TotC cmp):∀ (l l2:List α),SS cmp l→SS cmp l2→(∀ x,x ∈ l ↔ x ∈ l2)→l=l2
 | [],[],_,_,_=>rfl
 | [],b :: l2,_,_,e=>absurd ((e b).2 (List.mem_cons_self ..)) (by simp)
 | a :: l,[],_,_,e=>absurd ((e a).1 (List.mem_cons_self ..)) (by simp)
 | a :: l,b :: l2,h1,h2,e=>by
   have p1:=(List.pairwise_cons.1 h1).1;have p2:=(List.pairwise_cons.1 h2).1;have irr:∀ x,¬ cmp x x<0:=fun x h=>by have:=(t.zero x x).2 rfl;omega
   have hab:a=b:=by
    rcases List.mem_cons.1 ((e a).1 (List.mem_cons_self ..)) with q | q
    · exact q
    · rcases List.mem_cons.1 ((e b).2 (List.mem_cons_self ..)) with r | r
      · exact r.symm
      · exact absurd (t.trans _ _ _ (p2 a q) (p1 b r)) (irr b)
   subst hab
   congr 1
   refine ss_ext t l l2 (List.pairwise_cons.1 h1).2 (List.pairwise_cons.1 h2).2 (fun x=>?_)
   constructor
   · intro hx
     rcases List.mem_cons.1 ((e x).1 (List.mem_cons_of_mem _ hx)) with q | q
     · subst q;exact absurd (p1 _ hx) (irr _)
     · exact q
   · intro hx
     rcases List.mem_cons.1 ((e x).2 (List.mem_cons_of_mem _ hx)) with q | q
     · subst q;exact absurd (p2 _ hx) (irr _)
     · exact q
def tidyG {α :Type} (cmp: α → α →Int) (d: α →Bool) (l:List α):List α :=l.foldl (fun out x=>if d x then out else insU cmp x out) []
theorem kJI {α :Type} {cmp: α → α →Int} (t:TotC cmp) (d: α →Bool):∀ (l out:List α),SS cmp out→SS cmp (l.foldl (fun out x=>if d x then out else insU cmp x out) out)∧∀ z,z ∈ l.foldl (fun out x=>if d x then out else insU cmp x out) out ↔ (z ∈ out∨z ∈ l∧d z=false)
 | [],out,h=>⟨h,fun z=>by simp⟩
 | x :: l,out,h=>by
   rw [List.foldl_cons];cases hd:d x with
   | true =>
     obtain ⟨q1,q2⟩:=kJI t d l out h;refine ⟨q1,fun z=>(q2 z).trans ?_⟩;rw [List.mem_cons]
     constructor
     · rintro (h | ⟨h1,h2⟩)
       · exact .inl h
       · exact .inr ⟨.inr h1,h2⟩
     · rintro (h | ⟨rfl | h1,h2⟩)
       · exact .inl h
       · rw [hd] at h2;cases h2
       · exact .inr ⟨h1,h2⟩
   | false =>
     obtain ⟨q1,q2⟩:=kJI t d l (insU cmp x out) (insU_ss t x out h);refine ⟨q1,fun z=>(q2 z).trans ?_⟩;rw [insU_mem t,List.mem_cons]
     constructor
     · rintro ((rfl | h) | ⟨h1,h2⟩)
       · exact .inr ⟨.inl rfl,hd⟩
       · exact .inl h
       · exact .inr ⟨.inr h1,h2⟩
     · rintro (h | ⟨rfl | h1,h2⟩)
       · exact .inl (.inr h)
       · exact .inl (.inl rfl)
       · exact .inr ⟨h1,h2⟩
theorem tidyG_ss {α :Type} {cmp: α → α →Int} (t:TotC cmp) (d: α →Bool) (l:List α):SS cmp (tidyG cmp d l):=(kJI t d l [] List.Pairwise.nil).1
theorem tidyG_mem {α :Type} {cmp: α → α →Int} (t:TotC cmp) (d: α →Bool) (l:List α) (z: α):z ∈ tidyG cmp d l ↔ z ∈ l∧d z=false:=by
 have:=(kJI t d l [] List.Pairwise.nil).2 z
 simpa [tidyG] using this
def kKI {α :Type} (eq: α → α →Bool):List α →List α
 | []=>[]
 | [a]=>[a]
 | a :: b :: l=>if eq a b then kKI eq (a :: l) else a :: kKI eq (b :: l)
 termination_by l=>l.length
theorem compG_ok {α :Type} {cmp: α → α →Int} (t:TotC cmp) {eq: α → α →Bool} (he:∀ a b,eq a b=true ↔ a=b):∀ l:List α,Le cmp l→SS cmp (kKI eq l)∧∀ z,z ∈ kKI eq l ↔ z ∈ l
 | [],_=>⟨by unfold kKI;exact List.Pairwise.nil,fun z=>by unfold kKI;rfl⟩
 | [a],_=>⟨by unfold kKI;simp [SS],fun z=>by unfold kKI;rfl⟩
 | a :: b :: l,h=>by
   have h1:=(List.pairwise_cons.1 h).1;have h2:=(List.pairwise_cons.1 h).2;unfold kKI
   split
   · next q =>
     have:=(he _ _).1 q;subst this;obtain ⟨q1,q2⟩:=compG_ok t he (a :: l) h2;exact ⟨q1,fun z=>(q2 z).trans (by simp)⟩
   · next q =>
     obtain ⟨q1,q2⟩:=compG_ok t he (b :: l) h2;refine ⟨List.pairwise_cons.2 ⟨fun z hz=>?_,q1⟩,fun z=>by rw [List.mem_cons,q2 z,List.mem_cons (a:=z) (b:=a)]⟩;have hb:=h1 b (List.mem_cons_self ..)
     have hab:cmp a b<0:=by
      have:cmp a b≠0:=fun r=>q ((he _ _).2 ((t.zero _ _).1 r))
      omega
     rcases List.mem_cons.1 ((q2 z).1 hz) with rfl | r
     · exact hab
     · have h3:=(List.pairwise_cons.1 h2).1 z r
       by_cases h4:cmp b z=0
       · rw [← (t.zero _ _).1 h4];exact hab
       · exact t.trans _ _ _ hab (by omega)
 termination_by l=>l.length
theorem comp_tidy {α :Type} {cmp: α → α →Int} (t:TotC cmp) {eq: α → α →Bool} (he:∀ a b,eq a b=true ↔ a=b) (d: α →Bool) (l m:List α) (hm:Le cmp m) (hp:∀ z,z ∈ m ↔ z ∈ l.filter (fun x=> !d x)):kKI eq m=tidyG cmp d l:=by
 obtain ⟨q1,q2⟩:=compG_ok t he m hm;refine ss_ext t _ _ q1 (tidyG_ss t d l) (fun x=>?_);rw [q2 x,hp x,tidyG_mem t,List.mem_filter];simp
theorem adj_pair:∀ (l:List Coef),(∀ i,0<i→i<l.length→slt (l.getD (i - 1) default).v (l.getD i default).v=true)→Srt l
 | [],_=>List.Pairwise.nil
 | [a],_=>List.pairwise_cons.2 ⟨fun u hu=>by simp at hu,List.Pairwise.nil⟩
 | a :: b :: l,h=>by
   have ih:=adj_pair (b :: l) (fun i h0 hi=>by
    have:=h (i+1) (by omega) (by simp at hi ⊢;omega);obtain ⟨j,rfl⟩:∃ j,i=j+1:=⟨i - 1,by omega⟩
    simpa using this)
   have hab:slt a.v b.v=true:=by simpa using h 1 (by omega) (by simp)
   refine List.pairwise_cons.2 ⟨fun u hu=>?_,ih⟩;rcases List.mem_cons.1 hu with rfl | hu
   · exact hab
   · exact kEF hab ((List.pairwise_cons.1 ih).1 u hu)
theorem kBD {x:Lin} (h:kAC x=true):Srt x.terms∧Nz x.terms∧Bd 1000000 x.terms∧(∀ t ∈ x.terms,kAV t.v=true)∧(-1000000≤x.const∧x.const≤1000000)∧x.terms.length≤12:=by
 unfold kAC at h;rw [Bool.and_eq_true,Bool.and_eq_true] at h;obtain ⟨⟨h1,h2⟩,h3⟩:=h;unfold termsOk at h1;rw [List.all_eq_true] at h1
 have hi:∀ i,i<x.terms.length→kAV (x.terms.getD i default).v=true∧(x.terms.getD i default).c≠0∧(-1000000≤(x.terms.getD i default).c∧(x.terms.getD i default).c≤1000000)∧(0<i→slt (x.terms.getD (i - 1) default).v (x.terms.getD i default).v=true):=fun i hi=>by
  have:=h1 i (List.mem_range.2 hi);unfold kG7 at this;rw [Bool.and_eq_true,Bool.and_eq_true,Bool.and_eq_true,Bool.or_eq_true] at this;obtain ⟨⟨⟨q1,q2⟩,q3⟩,q4⟩:=this;refine ⟨q1,by simpa using q2,by simpa [kDB] using q3,fun h0=>?_⟩;rcases q4 with q4 | q4
  · have:i=0:=by simpa using q4
    omega
  · exact q4
 have hm:∀ t ∈ x.terms,∃ i,i<x.terms.length∧x.terms.getD i default=t:=fun t ht=>by
  obtain ⟨i,hi,e⟩:=List.getElem_of_mem ht;exact ⟨i,hi,by rw [List.getD_eq_getElem?_getD,List.getElem?_eq_getElem hi];exact e⟩
 refine ⟨adj_pair _ fun i h0 hlt=>(hi i hlt).2.2.2 h0,fun t ht=>?_,fun t ht=>?_,fun t ht=>?_,by simpa [kDB] using h2,of_decide_eq_true h3⟩
 · obtain ⟨i,hlt,rfl⟩:=hm t ht;exact (hi i hlt).2.1
 · obtain ⟨i,hlt,rfl⟩:=hm t ht;exact (hi i hlt).2.2.1
 · obtain ⟨i,hlt,rfl⟩:=hm t ht;exact (hi i hlt).1
theorem varL_valid {s:Str} (h:kAV s=true):kAC (varL s)=true:=by
 unfold kAC varL termsOk;simp [kG7,h,kDB,List.range_succ]
def sub1 (b:List Bnd) (v:Str):Lin:=if b.any (isB 1 v) then bndL b v else varL v
def kG8 (b:List Bnd) (c:Int) (ts:List Coef):Lin:=ts.foldl (fun acc t=>kG6 acc (sub1 b t.v) t.c) ⟨c,[]⟩
def kAM (b:List Bnd) (x:Lin):Lin:=kG8 b x.const x.terms
def GoodB (b:List Bnd):Prop:=∀ y ∈ b,y.kind=1→kAC y.dim=true
theorem any_hit {α :Type} [Inhabited α] {p: α →Bool} {l:List α} (h:l.any p=true):l.findIdx p<l.length∧p (l.getD (l.findIdx p) default)=true:=by
 obtain ⟨x,hx,hp⟩:=List.any_eq_true.1 h;have hlt:=List.findIdx_lt_length_of_exists ⟨x,hx,hp⟩;refine ⟨hlt,?_⟩;rw [List.getD_eq_getElem?_getD,List.getElem?_eq_getElem hlt];exact List.findIdx_getElem
theorem sub1_valid {b:List Bnd} (h:GoodB b) {v:Str} (hv:kAV v=true):kAC (sub1 b v)=true:=by
 unfold sub1
 split
 · next q =>
   unfold bndL;rw [if_pos q];obtain ⟨h1,h2⟩:=any_hit q;refine h _ (kAJ h1) ?_;unfold isB at h2;rw [Bool.and_eq_true,beq_iff_eq] at h2;exact h2.1
 · exact varL_valid hv
structure SumOk (n:Nat) (x:Lin):Prop where
 srt:Srt x.terms
 nz:Nz x.terms
 bd:Bd (n * 12000000000000) x.terms
 lo: -(1000000+(n:Int) * 1000000000000)≤x.const
 hi:x.const≤1000000+(n:Int) * 1000000000000
 len:x.terms.length≤n * 12
theorem SumOk.times {n:Nat} {x y:Lin} (h:SumOk n x) (hy:kAC y=true) {k:Int} (hk: -1000000≤k∧k≤1000000):SumOk (n+1) (kG6 x y k):=by
 obtain ⟨q1,q2,q3,q4,q5,q6⟩:=kBD hy;have hm:=mul_bd hk q5;have h1:=h.lo;have h2:=h.hi;have h3:=h.len;refine ⟨times_srt _ _ _ h.srt,times_nz _ _ _ h.nz,fun t ht=>?_,?_,?_,?_⟩
 · have:=times_bd y.terms k hk q3 x.terms ((n:Int) * 12000000000000) (by omega) h.srt h.bd t ht
   omega
 · show _≤x.const+k * y.const
   omega
 · show x.const+k * y.const≤_
   omega
 · have:=times_len y.terms k x.terms h.srt
   show (kC7 x.terms y.terms k).length≤_
   omega
theorem subRun_ok {b:List Bnd} (hg:GoodB b) {c:Int} (hc: -1000000≤c∧c≤1000000) (ts:List Coef) (ht:∀ t ∈ ts,kAV t.v=true∧(-1000000≤t.c∧t.c≤1000000)):SumOk ts.length (kG8 b c ts):=by
 suffices H:∀ (ts:List Coef) (n:Nat) (acc:Lin),(∀ t ∈ ts,kAV t.v=true∧(-1000000≤t.c∧t.c≤1000000))→SumOk n acc→SumOk (n+ts.length) (ts.foldl (fun acc t=>kG6 acc (sub1 b t.v) t.c) acc) by
  have:=H ts 0 ⟨c,[]⟩ ht ⟨List.Pairwise.nil,fun t ht=>by simp at ht,fun t ht=>by simp at ht,by simp only;omega,by simp only;omega,by simp⟩
  rwa [Nat.zero_add] at this
 intro ts
 induction ts with
 | nil=>exact fun n acc _ h=>h
 | cons t ts ih =>
   intro n acc ht h;have h1:=ht t (List.mem_cons_self ..);have:=ih (n+1) _ (fun u hu=>ht u (List.mem_cons_of_mem _ hu)) (h.times (sub1_valid hg h1.1) h1.2)
   rwa [List.length_cons,show n+(ts.length+1)=n+1+ts.length by omega]
theorem subRun_take {b:List Bnd} {c:Int} {ts:List Coef} {k:Nat} (h:k<ts.length):kG8 b c (ts.take (k+1))=kG6 (kG8 b c (ts.take k)) (sub1 b (ts.getD k default).v) (ts.getD k default).c:=by
 unfold kG8;rw [kBB h,List.foldl_append];rfl
theorem valid_take {x:Lin} (h:kAC x=true) {b:List Bnd} (hg:GoodB b) (k:Nat) (hk:k≤x.terms.length):SumOk k (kG8 b x.const (x.terms.take k)):=by
 obtain ⟨q1,q2,q3,q4,q5,q6⟩:=kBD h;have:=subRun_ok hg q5 (x.terms.take k) (fun t ht=>⟨q4 t (List.mem_of_mem_take ht),q3 t (List.mem_of_mem_take ht)⟩)
 rwa [List.length_take,Nat.min_eq_left hk] at this
def kFN (s:Shp):Bool:=s.row.toList.isEmpty && s.dims.length==0
def kFG (b:Bnd):Bool :=
 if b.kind=1 then kAV b.v && (kAC b.dim && (kFN b.row && b.elem.toList.isEmpty))
 else if b.kind=2 then kAV b.v && (kAF b.row && (zeroL b.dim && b.elem.toList.isEmpty))
 else if b.kind=3 then kAW b.v && (kFF b.elem && (zeroL b.dim && kFN b.row)) else false
def bndOk (l:List Bnd) (i:Nat):Bool:=kFG (l.getD i default) && decide (kB2 (l.take i) (l.getD i default).kind (l.getD i default).v<0)
def kCU (l:List Bnd):Bool:=(List.range l.length).all (bndOk l)
theorem validBnds_at {l:List Bnd} (h:kCU l=true) {y:Bnd} (hy:y ∈ l):kFG y=true:=by
 obtain ⟨i,hi,e⟩:=List.getElem_of_mem hy;have:=(List.all_eq_true.1 h) i (List.mem_range.2 hi);unfold bndOk at this;rw [Bool.and_eq_true] at this;rw [List.getD_eq_getElem?_getD,List.getElem?_eq_getElem hi] at this;simp only [Option.getD_some] at this;rw [← e];exact this.1
theorem kIK {l:List Bnd} (h:kCU l=true):GoodB l:=fun y hy hk=>by
 have:=validBnds_at h hy;unfold kFG at this;rw [if_pos hk,Bool.and_eq_true,Bool.and_eq_true] at this;exact this.2.1
def kHJ (b:List Bnd) (s:Shp):Shp:=if s.row.toList.isEmpty then ⟨s.row,[]⟩ else if 0≤kB2 b 2 s.row then (b.getD (kB2 b 2 s.row).toNat default).row else ⟨s.row,[]⟩
def dimsOk (b:List Bnd) (s:Shp):Bool:=s.dims.all (fun x=>kAC (kAM b x))
def subShpR (b:List Bnd) (s:Shp):Shp:=⟨(kHJ b s).row,(kHJ b s).dims++s.dims.map (kAM b)⟩
def kBJ (b:List Bnd) (s:Shp):Bool:=dimsOk b s && decide ((kHJ b s).dims.length+s.dims.length≤6)
def kDE:Shp:=⟨⟨#[]⟩,[]⟩
def kJM (b:List Bnd) (s:Shp):Shp:=if kBJ b s then subShpR b s else kDE
def kE3 (b:List Bnd) (s:Shp):Int:=if kBJ b s then 0 else 3
def subEl (b:List Bnd) (e:Str):Str:=if 0≤kB2 b 3 e then (b.getD (kB2 b 3 e).toNat default).elem else e
def kBZ (b:List Bnd) (t:Typ):Typ:=⟨subEl b t.elem,subShpR b t.shape⟩
def kBL:Typ:=⟨⟨#[]⟩,kDE⟩
def subTyp (b:List Bnd) (t:Typ):Typ:=if kBJ b t.shape then kBZ b t else kBL
def kGO (b:List Bnd) (s:Sch):Sch:=⟨s.params.map (kBZ b),kBZ b s.result,s.wh.map (kAM b)⟩
def kCM (b:List Bnd) (s:Sch):Bool:=kAH s && (kCU b && (s.params.all (fun t=>kBJ b t.shape) && (kBJ b s.result.shape && s.wh.all (fun x=>kAC (kAM b x)))))
def kA8:Sch:=⟨[],kBL,[]⟩
theorem ordI_neg (a b:Int):ordI a b<0 ↔ a<b:=by
 unfold ordI
 constructor
 · intro h
   split at h
   · assumption
   · split at h <;> omega
 · intro h;rw [if_pos h];decide
theorem ordI_anti (a b:Int):ordI b a= -ordI a b:=by
 rcases Int.lt_trichotomy a b with h | h | h
 · unfold ordI;rw [if_neg (by omega),if_pos h,if_pos h];rfl
 · subst h;rw [(kEI a a).2 rfl];rfl
 · unfold ordI;rw [if_pos h,if_neg (by omega),if_pos h]
theorem cmpCoef_anti (a b:Coef):kAY b a= -kAY a b:=by
 unfold kAY;cases h1:slt a.v b.v with
 | true=>rw [kF0 h1];rfl
 | false =>
   cases h2:slt b.v a.v with
   | true=>rfl
   | false=>exact ordI_anti _ _
theorem cmpCoef_neg (a b:Coef):kAY a b<0 ↔ slt a.v b.v=true∨a.v=b.v∧a.c<b.c:=by
 unfold kAY;cases h1:slt a.v b.v with
 | true=>simp
 | false =>
   cases h2:slt b.v a.v with
   | true =>
     simp;intro e;rw [e,kE1] at h2;cases h2
   | false =>
     have:=kE4 h1 h2;simp [ordI_neg,this]
theorem cmpCoef_trans (a b c:Coef) (h1:kAY a b<0) (h2:kAY b c<0):kAY a c<0:=by
 rw [cmpCoef_neg] at *;rcases h1 with h1 | ⟨e1,h1⟩
 · rcases h2 with h2 | ⟨e2,h2⟩
   · exact .inl (kEF h1 h2)
   · exact .inl (e2 ▸ h1)
 · rcases h2 with h2 | ⟨e2,h2⟩
   · exact .inl (by rw [e1];exact h2)
   · exact .inr ⟨e1.trans e2,by omega⟩
theorem kKJ:∀ (l l2:List Coef),kAT l2 l= -kAT l l2
 | [],[]=>rfl
 | [],_ :: _=>rfl
 | _ :: _,[]=>rfl
 | a :: x,b :: y=>by
   unfold kAT;rw [cmpCoef_anti a b];by_cases h:kAY a b=0
   · rw [if_pos h,if_pos (by omega),kKJ x y]
   · rw [if_neg h,if_neg (by omega)]
theorem kIU:∀ (l m n:List Coef),kAT l m<0→kAT m n<0→kAT l n<0
 | [],[],_,h,_=>by simp [kAT] at h
 | [],_ :: _,[],_,h=>by simp [kAT] at h
 | [],_ :: _,_ :: _,_,_=>by simp [kAT]
 | _ :: _,[],_,h,_=>by simp [kAT] at h
 | _ :: _,_ :: _,[],_,h=>by simp [kAT] at h
 | a :: x,b :: y,c :: z,h1,h2=>by
   unfold kAT at *;by_cases e1:kAY a b=0
   · rw [if_pos e1] at h1
     have:=(kFO a b).1 e1;subst this;by_cases e2:kAY a c=0
     · rw [if_pos e2] at h2 ⊢
       exact kIU x y z h1 h2
     · rw [if_neg e2] at h2 ⊢
       exact h2
   · rw [if_neg e1] at h1
     by_cases e2:kAY b c=0
     · have:=(kFO b c).1 e2
       subst this;rw [if_neg e1];exact h1
     · rw [if_neg e2] at h2
       have:=cmpCoef_trans a b c h1 h2;rw [if_neg (by omega)];exact this
theorem totLin:TotC kCI where
 zero:=cmpLin_zero
 anti:=fun a b=>by
  unfold kCI;rw [kKJ a.terms b.terms];by_cases h:kAT a.terms b.terms=0
  · rw [if_pos h,if_pos (by omega)];exact ordI_anti _ _
  · rw [if_neg h,if_neg (by omega)]
 trans:=fun a b c h1 h2=>by
  unfold kCI at *;by_cases e1:kAT a.terms b.terms=0
  · rw [if_pos e1] at h1
    rw [(kDX _ _).1 e1];by_cases e2:kAT b.terms c.terms=0
    · rw [if_pos e2] at h2 ⊢
      rw [ordI_neg] at *;omega
    · rw [if_neg e2] at h2 ⊢
      exact h2
  · rw [if_neg e1] at h1
    by_cases e2:kAT b.terms c.terms=0
    · rw [← (kDX _ _).1 e2,if_neg e1];exact h1
    · rw [if_neg e2] at h2
      have:=kIU _ _ _ h1 h2;rw [if_neg (by omega)];exact this
def dropL (x:Lin):Bool:=x.terms.length==0 && decide (0≤x.const)
def tidy (l:List Lin):List Lin:=tidyG kCI dropL l
def addBs (out vs:List Bnd):List Bnd:=vs.foldl (fun o x=>addV o x.kind x.v) out
def kB8 (s:Sch):List Bnd:=if kAH s then addAll ((allT s).foldl (fun o t=>addBs o (kDZ t)) []) (s.wh.flatMap kA0) else []
def cntK (k:Int) (l:List Bnd):Nat:=l.countP (fun b=>b.kind==k)
def nm (c:UInt8) (n:Nat):Str:=⟨#[c]⟩++⟨(Lib.decDigits n).toArray⟩
def renB (n:Nat) (b:Bnd):Bnd:=if b.kind=1 then ⟨b.kind,b.v,varL (nm 110 n),b.row,b.elem⟩ else if b.kind=2 then ⟨b.kind,b.v,b.dim,⟨nm 114 n,b.row.dims⟩,b.elem⟩ else ⟨b.kind,b.v,b.dim,b.row,nm 65 n⟩
def renAt (l:List Bnd) (i:Nat):Bnd:=renB (cntK (l.getD i default).kind (l.take (i+1))) (l.getD i default)
def ren (l:List Bnd):List Bnd:=(List.range l.length).map (renAt l)
def canR (s:Sch):Sch:=let b:=ren (kB8 s);⟨s.params.map (kBZ b),kBZ b s.result,tidy (s.wh.map (kAM b))⟩
def canOk (s:Sch):Bool:=kCM (ren (kB8 s)) s
def can (s:Sch):Sch:=if canOk s then canR s else kA8
theorem kA1 {s:Sch} (h:kAH s=true):s.params.length≤12∧s.wh.length≤60∧(∀ t ∈ s.params,kAE t=true)∧kAE s.result=true∧∀ x ∈ s.wh,kAC x=true:=by
 unfold kAH at h;rw [Bool.and_eq_true,Bool.and_eq_true,Bool.and_eq_true,Bool.and_eq_true] at h;obtain ⟨h1,h2,h3,h4,h5⟩:=h;refine ⟨of_decide_eq_true h1,of_decide_eq_true h2,fun t ht=>?_,h4,fun x hx=>?_⟩
 · rw [Bool.not_eq_true'] at h3
   have:=(List.any_eq_false.1 h3) t ht
   simpa using this
 · rw [Bool.not_eq_true'] at h5
   have:=(List.any_eq_false.1 h5) x hx
   simpa using this
theorem find_hit {l:List Bnd} {k:Int} {v:Str} (h:0≤kB2 l k v):l.getD (kB2 l k v).toNat default ∈ l∧(l.getD (kB2 l k v).toNat default).kind=k:=by
 unfold kB2 idx at *;by_cases ha:l.any (isB k v)=true
 · rw [if_pos ha] at h ⊢
   obtain ⟨h1,h2⟩:=any_hit ha;rw [Int.toNat_natCast];refine ⟨kAJ h1,?_⟩;unfold isB at h2;rw [Bool.and_eq_true,beq_iff_eq] at h2;exact h2.1
 · rw [if_neg ha] at h;omega
theorem kJA (c:Int) (w:World):Calls Tryz.prog 126 #[.int .u8 c] w fun e w'=>e= .returned (.bool (kAN c))∧w=w':=by
 unfold kAN;by_cases h0:48≤c <;> by_cases h1:c≤57
 all_goals
  go_enter func126,ntmps126
  go_wp2_with fail
  go_ret;exact ⟨by simp [h0,h1],rfl⟩
theorem kE9 (c:Int) (w:World):Calls Tryz.prog 66 #[.int .u8 c] w fun e w'=>e= .returned (.bool (kAR c))∧w=w':=by
 unfold kAR;by_cases h0:97≤c <;> by_cases h1:c≤122
 all_goals
  go_enter func66,ntmps66
  go_wp2_with fail
  go_ret;exact ⟨by simp [h0,h1],rfl⟩
theorem extract_all (s:Str):s.extract 0 s.size=s:=by
 apply ByteArray.ext;rw [ByteArray.data_extract];exact Array.extract_size
def runB (s:Str) (k:Nat):Bool:=kAN (bt s k) || kAR (bt s k)
theorem lexer_run (s:Str) (w:World) (hsz:s.size≤281474976710656):Calls Tryz.prog 67 #[.string s,.bool true] w fun e w' =>
 (∃ k:Nat,k≤s.size∧(∀ j,j<k→runB s j=true)∧(k<s.size→runB s k=false)∧e= .returned (.string (s.extract 0 k)))∧w=w':=by
 go_enter func67,ntmps67
 go_wp2_with fail
 go_loopw [5] (fun i wr=>∃ k:Nat,k≤s.size∧i= .int .i64 k∧Hid (∀ j,j<k→runB s j=true)∧w=wr) (fun i _=>s.size - (intOf i).toNat)
 case atStart=>exact ⟨0,by omega,rfl,hJ (fun j hj=>absurd hj (by omega)),rfl⟩
 case round =>
  obtain ⟨k,hk,rfl,HT,rfl⟩:=hrel;by_cases hlt:k<s.size
  · have q1:decide ((k:Int)<(s.size:Int))=true:=decide_eq_true (by omega)
    have gk:=kBH s k hlt;have HR:Hid (runB s k=(kAN (bt s k) || kAR (bt s k))):=hJ rfl
    have HG:Hid (runB s k=true→∀ j,j<k+1→runB s j=true):=hJ (fun q j hj=>by
     rcases Nat.lt_or_ge j k with r | r
     · exact HT.out j r
     · obtain rfl:j=k:=by omega
       exact q)
    generalize bt s k=c at *;by_cases hd:kAN c=true
    · have HGo:=hJ (HG.out (by rw [HR.out,hd];rfl))
      go_wp2_with fail
      refine (kJA _ _).mono ?_;rintro e _ ⟨rfl,rfl⟩
      go_wp2_with fail
      go_roundw
      case rel=>exact ⟨k+1,by omega,by go_num,HGo,trivial⟩
      case measure=>simp [intOf];omega
    · have hd:kAN c=false:=by simpa using hd
      by_cases hl:kAR c=true
      · have HGo:=hJ (HG.out (by rw [HR.out,hd,hl];rfl))
        go_wp2_with fail
        refine (kJA _ _).mono ?_;rintro e _ ⟨rfl,rfl⟩
        go_wp2_with fail
        refine (kE9 _ _).mono ?_;rintro e _ ⟨rfl,rfl⟩
        go_wp2_with fail
        go_roundw
        case rel=>exact ⟨k+1,by omega,by go_num,HGo,trivial⟩
        case measure=>simp [intOf];omega
      · have hl:kAR c=false:=by simpa using hl
        have HF:Hid (runB s k=false):=hJ (by rw [HR.out,hd,hl];rfl)
        go_wp2_with fail
        refine (kJA _ _).mono ?_;rintro e _ ⟨rfl,rfl⟩
        go_wp2_with fail
        refine (kE9 _ _).mono ?_;rintro e _ ⟨rfl,rfl⟩
        go_wp2_with fail
        go_ret;exact ⟨⟨k,hk,HT.out,fun _=>HF.out,rfl⟩,rfl⟩
  · obtain rfl:k=s.size:=by omega
    have q1:decide ((s.size:Int)<(s.size:Int))=false:=decide_eq_false (by omega)
    go_wp2_with fail
    go_ret;exact ⟨⟨s.size,hk,HT.out,fun q=>absurd q (Nat.lt_irrefl _),by rw [extract_all];rfl⟩,rfl⟩
def kAX:List (List UInt8):=[[98,111,111,108],[100,101,102],[101,120,112,111,114,116],[102,97,108,115,101],[102,111,108,100],[105,109,112,111,114,116],[105,110],[105,110,116],[108,101,116],[109,111,100,117,108,101],[115,99,97,110],[115,105,122,101],[116,114,117,101],[119,104,101,114,101]]
def kAU (s:Str):Bool:=kAX.any (fun r=>s.toList==r)
theorem lexer_Reserved (s:Str) (w:World):Calls Tryz.prog 68 #[.string s] w fun e w'=>e= .returned (.bool (kAU s))∧w=w':=by
 have HR:Hid (kAU s=kAX.any (fun r=>s.toList==r)):=hJ rfl;by_cases h0:(s.toList==[98,111,111,108])=true
 case pos =>
  have HF:Hid (kAU s=true):=hJ (by rw [HR.out];simp only [kAX,List.any_cons,h0,Bool.or_true,Bool.true_or]);go_enter func68,ntmps68
  go_wp2_with fail
  go_ret;exact ⟨by rw [HF.out];rfl,rfl⟩
 have h0:(s.toList==[98,111,111,108])=false:=by simpa using h0
 by_cases h1:(s.toList==[100,101,102])=true
 case pos =>
  have HF:Hid (kAU s=true):=hJ (by rw [HR.out];simp only [kAX,List.any_cons,h1,Bool.or_true,Bool.true_or]);go_enter func68,ntmps68
  go_wp2_with fail
  go_ret;exact ⟨by rw [HF.out];rfl,rfl⟩
 have h1:(s.toList==[100,101,102])=false:=by simpa using h1
 by_cases h2:(s.toList==[101,120,112,111,114,116])=true
 case pos =>
  have HF:Hid (kAU s=true):=hJ (by rw [HR.out];simp only [kAX,List.any_cons,h2,Bool.or_true,Bool.true_or]);go_enter func68,ntmps68
  go_wp2_with fail
  go_ret;exact ⟨by rw [HF.out];rfl,rfl⟩
 have h2:(s.toList==[101,120,112,111,114,116])=false:=by simpa using h2
 by_cases h3:(s.toList==[102,97,108,115,101])=true
 case pos =>
  have HF:Hid (kAU s=true):=hJ (by rw [HR.out];simp only [kAX,List.any_cons,h3,Bool.or_true,Bool.true_or]);go_enter func68,ntmps68
  go_wp2_with fail
  go_ret;exact ⟨by rw [HF.out];rfl,rfl⟩
 have h3:(s.toList==[102,97,108,115,101])=false:=by simpa using h3
 by_cases h4:(s.toList==[102,111,108,100])=true
 case pos =>
  have HF:Hid (kAU s=true):=hJ (by rw [HR.out];simp only [kAX,List.any_cons,h4,Bool.or_true,Bool.true_or]);go_enter func68,ntmps68
  go_wp2_with fail
  go_ret;exact ⟨by rw [HF.out];rfl,rfl⟩
 have h4:(s.toList==[102,111,108,100])=false:=by simpa using h4
 by_cases h5:(s.toList==[105,109,112,111,114,116])=true
 case pos =>
  have HF:Hid (kAU s=true):=hJ (by rw [HR.out];simp only [kAX,List.any_cons,h5,Bool.or_true,Bool.true_or]);go_enter func68,ntmps68
  go_wp2_with fail
  go_ret;exact ⟨by rw [HF.out];rfl,rfl⟩
 have h5:(s.toList==[105,109,112,111,114,116])=false:=by simpa using h5
 by_cases h6:(s.toList==[105,110])=true
 case pos =>
  have HF:Hid (kAU s=true):=hJ (by rw [HR.out];simp only [kAX,List.any_cons,h6,Bool.or_true,Bool.true_or]);go_enter func68,ntmps68
  go_wp2_with fail
  go_ret;exact ⟨by rw [HF.out];rfl,rfl⟩
 have h6:(s.toList==[105,110])=false:=by simpa using h6
 by_cases h7:(s.toList==[105,110,116])=true
 case pos =>
  have HF:Hid (kAU s=true):=hJ (by rw [HR.out];simp only [kAX,List.any_cons,h7,Bool.or_true,Bool.true_or]);go_enter func68,ntmps68
  go_wp2_with fail
  go_ret;exact ⟨by rw [HF.out];rfl,rfl⟩
 have h7:(s.toList==[105,110,116])=false:=by simpa using h7
 by_cases h8:(s.toList==[108,101,116])=true
 case pos =>
  have HF:Hid (kAU s=true):=hJ (by rw [HR.out];simp only [kAX,List.any_cons,h8,Bool.or_true,Bool.true_or]);go_enter func68,ntmps68
  go_wp2_with fail
  go_ret;exact ⟨by rw [HF.out];rfl,rfl⟩
 have h8:(s.toList==[108,101,116])=false:=by simpa using h8
 by_cases h9:(s.toList==[109,111,100,117,108,101])=true
 case pos =>
  have HF:Hid (kAU s=true):=hJ (by rw [HR.out];simp only [kAX,List.any_cons,h9,Bool.or_true,Bool.true_or]);go_enter func68,ntmps68
  go_wp2_with fail
  go_ret;exact ⟨by rw [HF.out];rfl,rfl⟩
 have h9:(s.toList==[109,111,100,117,108,101])=false:=by simpa using h9
 by_cases h10:(s.toList==[115,99,97,110])=true
 case pos =>
  have HF:Hid (kAU s=true):=hJ (by rw [HR.out];simp only [kAX,List.any_cons,h10,Bool.or_true,Bool.true_or]);go_enter func68,ntmps68
  go_wp2_with fail
  go_ret;exact ⟨by rw [HF.out];rfl,rfl⟩
 have h10:(s.toList==[115,99,97,110])=false:=by simpa using h10
 by_cases h11:(s.toList==[115,105,122,101])=true
 case pos =>
  have HF:Hid (kAU s=true):=hJ (by rw [HR.out];simp only [kAX,List.any_cons,h11,Bool.or_true,Bool.true_or]);go_enter func68,ntmps68
  go_wp2_with fail
  go_ret;exact ⟨by rw [HF.out];rfl,rfl⟩
 have h11:(s.toList==[115,105,122,101])=false:=by simpa using h11
 by_cases h12:(s.toList==[116,114,117,101])=true
 case pos =>
  have HF:Hid (kAU s=true):=hJ (by rw [HR.out];simp only [kAX,List.any_cons,h12,Bool.or_true,Bool.true_or]);go_enter func68,ntmps68
  go_wp2_with fail
  go_ret;exact ⟨by rw [HF.out];rfl,rfl⟩
 have h12:(s.toList==[116,114,117,101])=false:=by simpa using h12
 by_cases h13:(s.toList==[119,104,101,114,101])=true
 case pos =>
  have HF:Hid (kAU s=true):=hJ (by rw [HR.out];simp only [kAX,List.any_cons,h13,Bool.or_true,Bool.true_or]);go_enter func68,ntmps68
  go_wp2_with fail
  go_ret;exact ⟨by rw [HF.out];rfl,rfl⟩
 have h13:(s.toList==[119,104,101,114,101])=false:=by simpa using h13
 have HF:Hid (kAU s=false):=hJ (by rw [HR.out];simp only [kAX,List.any_cons,List.any_nil,h0,h1,h2,h3,h4,h5,h6,h7,h8,h9,h10,h11,h12,h13,Bool.or_false]);go_enter func68,ntmps68
 go_wp2_with fail
 go_ret;exact ⟨by rw [HF.out];rfl,rfl⟩
def kAZ (s:Str):Bool:=decide (1≤s.size∧s.size≤30) && (kAR (bt s 0) && ((List.range s.size).all (runB s) && !kAU s))
theorem extract_eq (s:Str) (k:Nat) (h:k≤s.size):(s.extract 0 k).toList=s.toList ↔ k=s.size:=by
 constructor
 · intro q
   rw [ByteArray.toList_eq,ByteArray.toList_eq,ByteArray.data_extract,Array.toList_extract] at q;have:=congrArg List.length q;have e:s.data.toList.length=s.size:=rfl;simp only [List.extract_eq_take_drop,List.drop_zero,List.length_take,e] at this;omega
 · rintro rfl
   rw [extract_all]
theorem lexer_run_at (s:Str) (hsz:s.size≤281474976710656):∃ u:Str,(u.toList==s.toList)=(List.range s.size).all (runB s)∧∀ w,Calls Tryz.prog 67 #[.string s,.bool true] w fun e w'=>e= .returned (.string u)∧w=w':=by
 -- the place where it stops hangs on s alone
 have key:∀ n k:Nat,k+n=s.size→(∀ j,j<k→runB s j=true)→∃ m:Nat,m≤s.size∧(∀ j,j<m→runB s j=true)∧(m<s.size→runB s m=false):=by
  intro n
  induction n with
  | zero=>intro k hk h;exact ⟨k,by omega,h,fun q=>by omega⟩
  | succ n ih =>
    intro k hk h;cases hr:runB s k with
    | false=>exact ⟨k,by omega,h,fun _=>hr⟩
    | true=>exact ih (k+1) (by omega) (fun j hj=>by
       rcases Nat.lt_or_ge j k with r | r
       · exact h j r
       · obtain rfl:j=k:=by omega
         exact hr)
 obtain ⟨m,hm,h1,h2⟩:=key s.size 0 (by omega) (fun j hj=>absurd hj (by omega));refine ⟨s.extract 0 m,?_,fun w=>(lexer_run s w hsz).mono ?_⟩
 · rw [Bool.eq_iff_iff,beq_iff_eq,extract_eq s m hm,List.all_eq_true]
   constructor
   · rintro rfl i hi
     exact h1 i (List.mem_range.1 hi)
   · intro h
     rcases Nat.lt_or_ge m s.size with q | q
     · have:=h m (List.mem_range.2 q)
       rw [h2 q] at this;cases this
     · omega
 · rintro e w' ⟨⟨k,hk,k1,k2,rfl⟩,rfl⟩
   have:k=m:=by
    rcases Nat.lt_trichotomy k m with q | q | q
    · have:=h1 k q
      rw [k2 (by omega)] at this;cases this
    · exact q
    · have:=k1 m q
      rw [h2 (by omega)] at this;cases this
   subst this;exact ⟨rfl,rfl⟩
theorem name_cases (s:Str):kAZ s=(decide (1≤s.size∧s.size≤30) && (kAR (bt s 0) && ((List.range s.size).all (runB s) && !kAU s))):=rfl
theorem kB7 (s:Str) (w:World) (hsz:s.size≤281474976710656):Calls Tryz.prog 34 #[.string s] w fun e w'=>e= .returned (.bool (kAZ s))∧w=w':=by
 have HN:=hJ (name_cases s);by_cases h0:s.size=0
 · have he:s.toList.isEmpty=true:=by rw [ByteArray.toList_eq,show s.data.toList=[] from List.eq_nil_of_length_eq_zero h0];rfl
   have HF:Hid (kAZ s=false):=hJ (by rw [HN.out,decide_eq_false (by omega)];rfl);go_enter func34,ntmps34
   go_wp2_with fail
   go_ret;exact ⟨by rw [HF.out];rfl,rfl⟩
 have he:s.toList.isEmpty=false:=by
  rw [ByteArray.toList_eq,List.isEmpty_eq_false_iff];exact fun q=>h0 (by show s.data.toList.length=0;rw [q];rfl)
 by_cases h30:30<s.size
 · have q1:decide ((s.size:Int)≤30)=false:=decide_eq_false (by omega)
   have HF:Hid (kAZ s=false):=hJ (by rw [HN.out,decide_eq_false (by omega)];rfl);go_enter func34,ntmps34
   go_wp2_with fail
   go_ret;exact ⟨by rw [HF.out];rfl,rfl⟩
 have q1:decide ((s.size:Int)≤30)=true:=decide_eq_true (by omega);have HN:Hid (kAZ s=(kAR (bt s 0) && ((List.range s.size).all (runB s) && !kAU s))):=hJ (by rw [HN.out,decide_eq_true (by omega)];rfl);have hp0:0<s.size:=by omega
 have g0:=kBH s 0 hp0;obtain ⟨u,hu,hrun⟩:=lexer_run_at s hsz;have HRun:=hJ hrun;clear hrun;generalize bt s 0=c at *;by_cases hl:kAR c=true
 · by_cases ha:(List.range s.size).all (runB s)=true
   · have hu2:(u.toList==s.toList)=true:=by rw [hu,ha]
     have HF:Hid (kAZ s= !kAU s):=hJ (by rw [HN.out,hl,ha];rfl);clear hu ha;go_enter func34,ntmps34
     go_wp2_with fail
     refine (kE9 _ _).mono ?_;rintro e _ ⟨rfl,rfl⟩
     go_wp2_with fail
     refine (HRun.out _).mono ?_;rintro e _ ⟨rfl,rfl⟩
     go_wp2_with fail
     refine (lexer_Reserved _ _).mono ?_;rintro e _ ⟨rfl,rfl⟩
     go_wp2_with fail
     go_ret;exact ⟨by rw [HF.out];rfl,rfl⟩
   · have ha:(List.range s.size).all (runB s)=false:=by simpa using ha
     have hu2:(u.toList==s.toList)=false:=by rw [hu,ha]
     have HF:Hid (kAZ s=false):=hJ (by rw [HN.out,hl,ha];rfl);clear hu ha;go_enter func34,ntmps34
     go_wp2_with fail
     refine (kE9 _ _).mono ?_;rintro e _ ⟨rfl,rfl⟩
     go_wp2_with fail
     refine (HRun.out _).mono ?_;rintro e _ ⟨rfl,rfl⟩
     go_wp2_with fail
     go_ret;exact ⟨by rw [HF.out];rfl,rfl⟩
 · have hl:kAR c=false:=by simpa using hl
   have HF:Hid (kAZ s=false):=hJ (by rw [HN.out,hl];rfl);clear hu;go_enter func34,ntmps34
   go_wp2_with fail
   refine (kE9 _ _).mono ?_;rintro e _ ⟨rfl,rfl⟩
   go_wp2_with fail
   go_ret;exact ⟨by rw [HF.out];rfl,rfl⟩
def goodE (x:Ent):Bool:=canOk x.scheme && kAZ x.name
def mkOk (m:Str) (l:List Ent):Bool:=kAZ m && l.all goodE
def canE (x:Ent):Ent:=⟨x.name,can x.scheme⟩
def noIfc:Ifc:=⟨⟨#[]⟩,[]⟩
def Uni (l:List Ent):Prop:=l.Pairwise fun a b=>a.name≠b.name
def Asc (l:List Ent):Prop:=l.Pairwise fun a b=>slt a.name b.name=true
def Says (mod:Str) (l:List Ent) (out:Ifc) (e:Int):Prop :=
 (mkOk mod l=false∧out=noIfc∧e=1)∨(mkOk mod l=true∧¬Uni l∧out=noIfc∧e=8)∨(mkOk mod l=true∧Uni l∧e=0∧∃ m:List Ent,m.Perm l∧Asc m∧out=⟨mod,m.map canE⟩)
theorem Uni.perm {l l2:List Ent} (h:l.Perm l2) (u:Uni l):Uni l2:=h.pairwise u (fun hab=>Ne.symm hab)
def entAt (l:List Ent) (i:Nat):Bool:=kAZ (l.getD i default).name && (kAH (l.getD i default).scheme && (i==0 || slt (l.getD (i - 1) default).name (l.getD i default).name))
def kAL (i:Ifc):Bool:=(List.range i.entries.length).all (entAt i.entries) && (kAZ i.module_ && decide (i.entries.length≤60))
def Bx (w:World) (g:Nat) (E:TypeId) (cs:List Value):Prop:=w.heap[g]? =some (.cells cs.toArray E (0,0))
theorem Bx.cell {w:World} {g:Nat} {E:TypeId} {cs:List Value} (h:Bx w g E cs) (j:Nat) (u:Value) (hu:cs[j]? =some u):w.cell? ⟨g,j,none⟩=some u:=box0 h j u hu
theorem Bx.fz {w:World} {g:Nat} {E:TypeId} {cs:List Value} (h:Bx w g E cs) (j:Nat):w.frozen? ⟨g,j,none⟩=false:=by
 unfold World.frozen?;rw [show w.heap[g]? =_ from h];simp
theorem Bx.lt {w:World} {g:Nat} {E:TypeId} {cs:List Value} (h:Bx w g E cs):g<w.heap.size:=by
 rcases Nat.lt_or_ge g w.heap.size with q | q
 · exact q
 · unfold Bx at h;rw [Array.getElem?_eq_none q] at h;cases h
theorem Bx.fresh (w:World) (E:TypeId) (cs:List Value):Bx (w.alloc (.cells cs.toArray E)) w.heap.size E cs:=by
 show (w.heap.push _)[w.heap.size]? =_
 simp
theorem Bx.alloc {w:World} {g:Nat} {E:TypeId} {cs:List Value} (h:Bx w g E cs) (o:Obj):Bx (w.alloc o) g E cs:=by
 have:=h.lt
 show (w.heap.push o)[g]? =_
 rw [Array.getElem?_push,if_neg (by omega)];exact h
theorem Bx.drew {w:World} {g:Nat} {E:TypeId} {cs:List Value} (h:Bx w g E cs):Bx w.drew g E cs:=h
theorem Bx.below {w w':World} {g B:Nat} {E:TypeId} {cs:List Value} (h:Bx w g E cs) (hb:Below B w w') (hg:g<B):Bx w' g E cs:=(hb.block g hg).trans h
theorem Bx.set {w:World} {g:Nat} {E:TypeId} {cs:List Value} (h:Bx w g E cs) (j:Nat) (u:Value):Bx (w.setCell ⟨g,j,none⟩ u) g E (cs.set j u):=by
 have hl:=h.lt;unfold Bx World.setCell at *
 show (w.heap.modify g _)[g]? =_
 rw [Array.getElem?_modify,if_pos rfl,h];simp
theorem kAB {w:World} {g:Nat} {a:Addr} {u:Value} (hne:a.block≠g):(w.setCell a u).heap[g]? =w.heap[g]? :=by
 unfold World.setCell
 show (w.heap.modify a.block _)[g]? =_
 rw [Array.getElem?_modify,if_neg hne]
theorem Bx.other {w:World} {g:Nat} {E:TypeId} {cs:List Value} (h:Bx w g E cs) {a:Addr} {u:Value} (hne:a.block≠g):Bx (w.setCell a u) g E cs:=(kAB hne).trans h
structure Kb (g:Nat) (w w':World):Prop where
 os:w'.os=w.os
 tape:w'.tape=w.tape
 output:w'.output=w.output
 size:w.heap.size≤w'.heap.size
 block:∀ q,q<w.heap.size→q≠g→w'.heap[q]? =w.heap[q]?
theorem Kb.refl (g:Nat) (w:World):Kb g w w:=⟨rfl,rfl,rfl,Nat.le_refl _,fun _ _ _=>rfl⟩
theorem Kb.later {g:Nat} {a b c:World} (h:Kb g a b) (k:Below b.heap.size b c):Kb g a c:=⟨k.os.trans h.os,k.tape.trans h.tape,k.output.trans h.output,Nat.le_trans h.size k.size,fun q hq hne=>(k.block q (Nat.lt_of_lt_of_le hq h.size)).trans (h.block q hq hne)⟩
theorem Kb.trans {g:Nat} {a b c:World} (h:Kb g a b) (k:Kb g b c):Kb g a c:=⟨k.os.trans h.os,k.tape.trans h.tape,k.output.trans h.output,Nat.le_trans h.size k.size,fun q hq hne=>(k.block q (Nat.lt_of_lt_of_le hq h.size) hne).trans (h.block q hq hne)⟩
theorem Kb.set {g:Nat} {a b:World} (h:Kb g a b) (o:Nat) (u:Value):Kb g a (b.setCell ⟨g,o,none⟩ u):=⟨h.os,h.tape,h.output,by simpa using h.size,fun q hq hne=>(kAB (fun e=>hne e.symm)).trans (h.block q hq hne)⟩
theorem Kb.drew {g:Nat} {a b:World} (h:Kb g a b):Kb g a b.drew:=⟨h.os,h.tape,h.output,h.size,h.block⟩
theorem Kb.below {g B:Nat} {w w':World} (h:Kb g w w') (hg:B≤g) (hB:B≤w.heap.size):Below B w w':=⟨h.os,h.tape,h.output,h.size,fun k hk=>h.block k (by omega) (by omega)⟩
theorem Bx.kb {w w':World} {g p:Nat} {E:TypeId} {cs:List Value} (h:Bx w g E cs) (hk:Kb p w w') (hne:g≠p):Bx w' g E cs:=(hk.block g h.lt hne).trans h
theorem Env.keep {w w':World} {B:Nat} (h:Env w) (hb:Below B w w') (h8:8≤B):Env w' :=
 have hg:=h.big
 ⟨h.sx.imp fun _ ⟨p,e⟩=>⟨p,var?_below hb (g:=4) (by kernel_rfl) (by omega) e⟩,h.rg.imp fun _ ⟨p,e⟩=>⟨p,var?_below hb (g:=5) (by kernel_rfl) (by omega) e⟩,
   var?_below hb (g:=3) (by kernel_rfl) (by omega) h.ten,Nat.le_trans hg hb.size⟩
theorem Env.kb {w w':World} {p:Nat} (h:Env w) (hk:Kb p w w') (hp:8≤p):Env w':=h.keep (hk.below hp h.big) (Nat.le_refl _)
theorem Bx.kp {w w':World} {v v':Value} {g:Nat} {E:TypeId} {cs:List Value} (h:Bx w g E cs) (hk:Kp v v' w w') (hne:v.ownBlock≠some g):Bx w' g E cs:=(hk.block g h.lt hne).trans h
theorem Own.set {α :Type} {R:Rep α} {E:TypeId} {S:Blk} {w:World} {base:Nat} {v:Value} {l:List α} (h:Own R E S w base v l) {a:Addr} (u:Value) (hS:∀ k,S k→k≠a.block) (hb:a.block<base):Own R E S (w.setCell a u) base v l :=
 h.frame (fun k hk q=>kAB (fun e=>by
  rcases q with q | q
  · exact hS k q e.symm
  · have:=h.base_le k q;omega)) (by simp)
theorem Own.ne {α :Type} {R:Rep α} {E:TypeId} {S:Blk} {w:World} {base:Nat} {v:Value} {l:List α} (h:Own R E S w base v l) {g:Nat} (hg:g<base):v.ownBlock≠some g:=fun e=>by have:=h.base_le g e;omega
theorem Own.shape {α :Type} {R:Rep α} {E:TypeId} {S:Blk} {w:World} {base:Nat} {v:Value} {l:List α} (h:Own R E S w base v l):∃ a m c,v= .slice a m c:=by
 obtain ⟨a,c,rfl,_⟩:=h.sl;exact ⟨a,_,c,rfl⟩
theorem Own.open_ {α :Type} {R:Rep α} {E:TypeId} {S:Blk} {w:World} {base:Nat} {v:Value} {l:List α} (h:Own R E S w base v l) (hl:0<l.length):∃ g c,v= .slice (some ⟨g,0,none⟩) l.length c∧base≤g∧g<w.heap.size∧Sl R (fun k=>S k∨base≤k) w (some ⟨g,0,none⟩) l.length c l∧∀ j,w.frozen? ⟨g,j,none⟩=false:=by
 obtain ⟨a,c,rfl,hs⟩:=h.sl;obtain ⟨css,hcl,hrow,hel⟩:=h.row;obtain ⟨_,⟨hv,h0⟩ | ⟨g,cap,cur,hv,hg,hh,_⟩⟩:=hrow
 · omega
 · rw [Value.slice.injEq] at hv
   obtain ⟨rfl,-,rfl⟩:=hv;refine ⟨g,c,rfl,hg,?_,hs,fun j=>?_⟩
   · rcases Nat.lt_or_ge g w.heap.size with q | q
     · exact q
     · rw [Array.getElem?_eq_none q] at hh;cases hh
   · unfold World.frozen?
     rw [hh];simp
theorem kET:ElemOf Tryz.prog 47 46 kCB.size 24:=⟨by kernel_rfl,by kernel_rfl⟩
structure Raw (k:Nat) (E:TypeId) (w:World) (g:Nat) (css:List (List Value)) (rest:List Value):Prop where
 len:∀ cs ∈ css,cs.length=k
 bx:Bx w g E (css.flatten++rest)
theorem Raw.lt {k:Nat} {E:TypeId} {w:World} {g:Nat} {css:List (List Value)} {rest:List Value} (h:Raw k E w g css rest):g<w.heap.size:=h.bx.lt
theorem flat_lt {css:List (List Value)} {k:Nat} (hm:∀ cs ∈ css,cs.length=k) {i j:Nat} (hi:i<css.length) (hj:j<k):i * k+j<css.flatten.length:=by
 rw [kBQ hm];have:=Nat.mul_le_mul_right k (show i+1≤css.length from hi);rw [Nat.add_mul,Nat.one_mul] at this;omega
theorem Raw.cell {k:Nat} {E:TypeId} {w:World} {g:Nat} {css:List (List Value)} {rest:List Value} (h:Raw k E w g css rest) {i:Nat} {cs:List Value} (hi:css[i]? =some cs) (j:Nat) (u:Value) (hu:cs[j]? =some u):w.cell? ⟨g,i * k+j,none⟩=some u:=by
 refine h.bx.cell (i * k+j) u ?_
 have hil:i<css.length:=by
  rcases Nat.lt_or_ge i css.length with q | q
  · exact q
  · rw [List.getElem?_eq_none q] at hi;cases hi
 have hj:j<k:=by
  have:=h.len cs (List.mem_iff_getElem?.2 ⟨i,hi⟩);rcases Nat.lt_or_ge j cs.length with q | q
  · omega
  · rw [List.getElem?_eq_none q] at hu;cases hu
 rw [List.getElem?_append_left (flat_lt h.len hil hj)];exact kIC h.len i cs j u hi hu
theorem Raw.fz {k:Nat} {E:TypeId} {w:World} {g:Nat} {css:List (List Value)} {rest:List Value} (h:Raw k E w g css rest) (o:Nat):w.frozen? ⟨g,o,none⟩=false:=h.bx.fz o
theorem flat_set {k:Nat} {j:Nat} (hj:j<k) (u:Value):∀ (css:List (List Value)) (i:Nat) (cs:List Value) (rest:List Value),(∀ cs ∈ css,cs.length=k)→css[i]? =some cs→(css.flatten++rest).set (i * k+j) u=(css.set i (cs.set j u)).flatten++rest
 | [],i,cs,rest,hm,hi=>by simp at hi
 | c :: css,0,cs,rest,hm,hi=>by
   simp at hi;subst hi;have:=hm c (List.mem_cons_self ..);rw [Nat.zero_mul,Nat.zero_add,List.flatten_cons,List.set_cons_zero,List.flatten_cons,List.append_assoc,List.append_assoc,List.set_append_left _ _ (by omega)]
 | c :: css,i+1,cs,rest,hm,hi=>by
   have hc:=hm c (List.mem_cons_self ..);have ih:=flat_set hj u css i cs rest (fun d hd=>hm d (List.mem_cons_of_mem _ hd)) (by simpa using hi);rw [List.flatten_cons,List.append_assoc,List.set_append_right _ _ (by rw [hc,Nat.succ_mul];omega),hc,show (i+1) * k+j - k=i * k+j by rw [Nat.succ_mul];omega,ih,List.set_cons_succ,List.flatten_cons,List.append_assoc]
theorem Raw.set {k:Nat} {E:TypeId} {w:World} {g:Nat} {css:List (List Value)} {rest:List Value} (h:Raw k E w g css rest) {i:Nat} {cs:List Value} (hi:css[i]? =some cs) {j:Nat} (hj:j<k) (u:Value):Raw k E (w.setCell ⟨g,i * k+j,none⟩ u) g (css.set i (cs.set j u)) rest:=by
 refine ⟨fun d hd=>?_,?_⟩
 · rcases List.mem_or_eq_of_mem_set hd with q | q
   · exact h.len d q
   · rw [q,List.length_set];exact h.len cs (List.mem_iff_getElem?.2 ⟨i,hi⟩)
 · have:=h.bx.set (i * k+j) u
   rwa [flat_set hj u css i cs rest h.len hi] at this
theorem Raw.below {k:Nat} {E:TypeId} {w w':World} {g B:Nat} {css:List (List Value)} {rest:List Value} (h:Raw k E w g css rest) (hb:Below B w w') (hg:g<B):Raw k E w' g css rest:=⟨h.len,h.bx.below hb hg⟩
theorem Raw.alloc {k:Nat} {E:TypeId} {w:World} {g:Nat} {css:List (List Value)} {rest:List Value} (h:Raw k E w g css rest) (o:Obj):Raw k E (w.alloc o) g css rest:=⟨h.len,h.bx.alloc o⟩
theorem Raw.drew {k:Nat} {E:TypeId} {w:World} {g:Nat} {css:List (List Value)} {rest:List Value} (h:Raw k E w g css rest):Raw k E w.drew g css rest:=⟨h.len,h.bx.drew⟩
theorem Raw.other {k:Nat} {E:TypeId} {w:World} {g:Nat} {css:List (List Value)} {rest:List Value} (h:Raw k E w g css rest) {a:Addr} {u:Value} (hne:a.block≠g):Raw k E (w.setCell a u) g css rest:=⟨h.len,h.bx.other hne⟩
theorem Raw.keep {k:Nat} {E:TypeId} {w w':World} {g:Nat} {css:List (List Value)} {rest:List Value} (h:Raw k E w g css rest) (hb:w'.heap[g]? =w.heap[g]?):Raw k E w' g css rest:=⟨h.len,hb.trans h.bx⟩
theorem Raw.setRest {k:Nat} {E:TypeId} {w:World} {g:Nat} {css:List (List Value)} {rest:List Value} (h:Raw k E w g css rest) {o:Nat} (ho:css.length * k≤o) (u:Value):Raw k E (w.setCell ⟨g,o,none⟩ u) g css (rest.set (o - css.length * k) u):=by
 refine ⟨h.len,?_⟩;have:=h.bx.set o u
 rwa [List.set_append_right _ _ (by rw [kBQ h.len];exact ho),kBQ h.len] at this
theorem Raw.take {k:Nat} {E:TypeId} {w:World} {g:Nat} {css:List (List Value)} {rest:List Value} (h:Raw k E w g css rest) (m:Nat):Raw k E w g (css.take m) ((css.drop m).flatten++rest):=by
 refine ⟨fun d hd=>h.len d (List.mem_of_mem_take hd),?_⟩;rw [← List.append_assoc,← List.flatten_append,List.take_append_drop];exact h.bx
def Lies {α :Type} (R:Rep α) (S:Blk) (w:World) (g:Nat) (css:List (List Value)) (l:List α):Prop:=css.length=l.length∧∀ (i:Nat) (x: α),l[i]? =some x→∃ cs,css[i]? =some cs∧R.rd (fun q=>S q∧q≠g) w cs x
theorem Lies.at_ {α :Type} [Inhabited α] {R:Rep α} {S:Blk} {w:World} {g:Nat} {css:List (List Value)} {l:List α} (h:Lies R S w g css l) {i:Nat} (hi:i<l.length):∃ cs,css[i]? =some cs∧R.rd (fun q=>S q∧q≠g) w cs (l.getD i default):=h.2 i _ (kEN hi)
theorem Lies.frame {α :Type} {R:Rep α} {S:Blk} {w w':World} {g:Nat} {css:List (List Value)} {l:List α} (h:Lies R S w g css l) (hf:∀ q,S q→q≠g→q<w.heap.size→w'.heap[q]? =w.heap[q]?):Lies R S w' g css l :=
 ⟨h.1,fun i x hx=>let ⟨cs,e,r⟩:=h.2 i x hx;⟨cs,e,R.frame r fun q hq hlt=>hf q hq.1 hq.2 hlt⟩⟩
theorem Lies.below {α :Type} {R:Rep α} {S:Blk} {w w':World} {g:Nat} {css:List (List Value)} {l:List α} (h:Lies R S w g css l) (hb:Below w.heap.size w w'):Lies R S w' g css l:=h.frame fun q _ _ hlt=>hb.block q hlt
theorem Lies.self {α :Type} {R:Rep α} {S:Blk} {w:World} {g:Nat} {css:List (List Value)} {l:List α} (h:Lies R S w g css l) (o:Nat) (u:Value):Lies R S (w.setCell ⟨g,o,none⟩ u) g css l:=h.frame fun q _ hne _=>kAB (fun e=>hne e.symm)
theorem Lies.other {α :Type} {R:Rep α} {S:Blk} {w:World} {g:Nat} {css:List (List Value)} {l:List α} (h:Lies R S w g css l) {a:Addr} (hS:¬S a.block) (u:Value):Lies R S (w.setCell a u) g css l:=h.frame fun q hq _ _=>kAB (fun e=>hS (by rw [e];exact hq))
theorem Lies.drew {α :Type} {R:Rep α} {S:Blk} {w:World} {g:Nat} {css:List (List Value)} {l:List α} (h:Lies R S w g css l):Lies R S w.drew g css l:=h.frame fun _ _ _ _=>rfl
theorem Lies.mono {α :Type} {R:Rep α} {S S':Blk} {w:World} {g:Nat} {css:List (List Value)} {l:List α} (h:Lies R S w g css l) (hs:∀ q,S q→q<w.heap.size→S' q):Lies R S' w g css l :=
 ⟨h.1,fun i x hx=>let ⟨cs,e,r⟩:=h.2 i x hx;⟨cs,e,R.mono r fun q hq hlt=>⟨hs q hq.1 hlt,hq.2⟩⟩⟩
theorem Lies.set {α :Type} {R:Rep α} {S:Blk} {w:World} {g:Nat} {css:List (List Value)} {l:List α} (h:Lies R S w g css l) (i:Nat) {cs:List Value} {y: α} (hr:R.rd (fun q=>S q∧q≠g) w cs y):Lies R S w g (css.set i cs) (l.set i y):=by
 refine ⟨by rw [List.length_set,List.length_set,h.1],fun j x hx=>?_⟩;by_cases hij:i=j
 · subst hij
   have hi:i<l.length:=by
    rcases Nat.lt_or_ge i l.length with q | q
    · exact q
    · rw [List.getElem?_eq_none (by rw [List.length_set];exact q)] at hx;cases hx
   rw [List.getElem?_set_self hi] at hx;cases hx;exact ⟨cs,List.getElem?_set_self (by rw [h.1];exact hi),hr⟩
 · rw [List.getElem?_set_ne hij] at hx
   obtain ⟨ds,e,r⟩:=h.2 j x hx;exact ⟨ds,by rw [List.getElem?_set_ne hij];exact e,r⟩
theorem Lies.take {α :Type} {R:Rep α} {S:Blk} {w:World} {g:Nat} {css:List (List Value)} {l:List α} (h:Lies R S w g css l) (m:Nat):Lies R S w g (css.take m) (l.take m):=by
 refine ⟨by rw [List.length_take,List.length_take,h.1],fun j x hx=>?_⟩;rw [List.getElem?_take] at hx
 split at hx
 · next q =>
   obtain ⟨ds,e,r⟩:=h.2 j x hx;exact ⟨ds,by rw [List.getElem?_take,if_pos q];exact e,r⟩
 · cases hx
theorem Own.raw {α :Type} {R:Rep α} {E:TypeId} {S:Blk} {w:World} {base:Nat} {v:Value} {l:List α} (h:Own R E S w base v l) (hl:0<l.length):∃ g c css rest,v= .slice (some ⟨g,0,none⟩) l.length c∧base≤g∧Raw R.size E w g css rest∧Lies R S w g css l∧l.length≤c∧c≤maxLen∧css.length * R.size+rest.length=c * R.size:=by
 obtain ⟨css,hcl,hrow,hel⟩:=h.row;obtain ⟨q0,⟨hv,h0⟩ | ⟨g,c,cur,rfl,hg,hh,hn,hm,hsz,ht⟩⟩:=hrow
 · omega
 · have hlen:∀ cs ∈ css,cs.length=R.size:=fun cs' hm'=>by
    obtain ⟨i',hi',rfl⟩:=List.getElem_of_mem hm';obtain ⟨cs2,e2,r2⟩:=hel i' (l[i']'(by omega)) (List.getElem?_eq_getElem (by omega));rw [List.getElem?_eq_getElem hi'] at e2;cases e2;exact R.len r2
   refine ⟨g,c,css,cur.toList.drop (l.length * R.size),rfl,hg,⟨hlen,?_⟩,⟨hcl,fun i x hx=>?_⟩,hn,hm,?_⟩
   · unfold Bx
     rw [← ht,List.take_append_drop]
     simpa using hh
   · obtain ⟨cs,e1,e2⟩:=hel i x hx
     exact ⟨cs,e1,R.mono e2 fun q hq _=>⟨hq.1,fun e=>hq.2 (by rw [e];rfl)⟩⟩
   · have:cur.toList.length=c * R.size:=by rw [← hsz];simp
     have h2:l.length * R.size≤c * R.size:=Nat.mul_le_mul_right _ hn;rw [List.length_drop,this,hcl];omega
theorem Raw.own {α :Type} {R:Rep α} {E:TypeId} {S:Blk} {w:World} {base g c:Nat} {css:List (List Value)} {rest:List Value} {l:List α} (h:Raw R.size E w g css rest) (hl:Lies R S w g css l) (hg:base≤g) (hn:l.length≤c) (hm:c≤maxLen) (hsz:css.length * R.size+rest.length=c * R.size):Own R E S w base (.slice (some ⟨g,0,none⟩) l.length c) l:=by
 refine ⟨css,hl.1,⟨by rw [kBQ h.len,hl.1],.inr ⟨g,c,_,rfl,hg,h.bx,hn,hm,by simp [kBQ h.len];omega,?_⟩⟩,fun i x hx=>?_⟩
 · rw [← hl.1]
   show ((css.flatten++rest).toArray.toList).take _=_
   simp only [List.toList_toArray];rw [List.take_append_of_le_length (by rw [kBQ h.len];exact Nat.le_refl _),List.take_of_length_le (by rw [kBQ h.len];exact Nat.le_refl _)]
 · obtain ⟨cs,e1,e2⟩:=hl.2 i x hx
   exact ⟨cs,e1,R.mono e2 fun q hq _=>⟨hq.1,fun e=>hq.2 (by simp [Value.ownBlock] at e;exact e.symm)⟩⟩
theorem Kb.sets {g:Nat} {a:World}:∀ (vs:List Value) {b:World} (h:Kb g a b) (o:Nat),Kb g a (b.setCells g o vs)
 | [],b,h,o=>h
 | v :: vs,b,h,o=>Kb.sets vs (h.set o v) (o+1)
structure Kl (v v':Value) (w w':World):Prop where
 block:∀ k,k<w.heap.size→v.ownBlock≠some k→w'.heap[k]? =w.heap[k]?
 own:∀ q,v'.ownBlock=some q→v.ownBlock=some q∨w.heap.size≤q
theorem Kl.refl (v:Value) (w:World):Kl v v w w:=⟨fun _ _ _=>rfl,fun q h=>.inl h⟩
theorem Kl.below {v:Value} {w w':World} (h:Below w.heap.size w w'):Kl v v w w':=⟨fun k hk _=>h.block k hk,fun q h=>.inl h⟩
theorem Kl.trans {v v' v'':Value} {w w' w'':World} (h:Kl v v' w w') (h2:Kl v' v'' w' w'') (hs:w.heap.size≤w'.heap.size):Kl v v'' w w'' :=
 ⟨fun k hk hne=>by rw [h2.block k (by omega) (fun e=>(h.own k e).elim hne (fun q=>by omega)),h.block k hk hne],
  fun q hq=>(h2.own q hq).elim (fun e=>h.own q e) (fun e=>.inr (by omega))⟩
theorem Kb.kl {g:Nat} {w w':World} (h:Kb g w w') (n c n' c':Nat):Kl (.slice (some ⟨g,0,none⟩) n c) (.slice (some ⟨g,0,none⟩) n' c') w w':=⟨fun k hk hne=>h.block k hk (fun e=>hne (by rw [e];rfl)),fun q hq=>.inl hq⟩
structure PreC {α :Type} (cmp: α → α →Int):Prop where
 anti:∀ a b,cmp b a= -cmp a b
 trans:∀ a b c,cmp a b≤0→cmp b c≤0→cmp a c≤0
theorem TotC.pre {α :Type} {cmp: α → α →Int} (t:TotC cmp):PreC cmp:=⟨t.anti,fun a b c h1 h2=>by
 by_cases e1:cmp a b=0
 · rw [(t.zero _ _).1 e1];exact h2
 · by_cases e2:cmp b c=0
   · rw [← (t.zero _ _).1 e2];exact h1
   · exact Int.le_of_lt (t.trans a b c (by omega) (by omega))⟩
structure InsAt {α :Type} (cmp: α → α →Int) (l0 l:List α) (A:List α) (x: α) (B C:List α):Prop where
 eq:l=A++x :: (B++C)
 perm:l.Perm l0
 le:Le cmp (A++B)
 up:∀ b ∈ B,cmp x b≤0
structure InsO {α :Type} (cmp: α → α →Int) (l0 l:List α) (i:Nat):Prop where
 perm:l.Perm l0
 le:Le cmp (l.take i)
theorem InsO.start {α :Type} (cmp: α → α →Int) (l:List α):InsO cmp l l 1:=⟨List.Perm.refl _,by
 cases l with
 | nil=>exact List.Pairwise.nil
 | cons a l=>simp [Le]⟩
theorem InsO.enter {α :Type} {cmp: α → α →Int} {l0 l:List α} {i:Nat} (h:InsO cmp l0 l i) (hi:i<l.length):InsAt cmp l0 l (l.take i) l[i] [] (l.drop (i+1)) :=
 ⟨by rw [List.nil_append,← List.drop_eq_getElem_cons hi,List.take_append_drop],h.perm,by rw [List.append_nil];exact h.le,fun b hb=>by simp at hb⟩
theorem InsAt.down {α :Type} {cmp: α → α →Int} {l0 l A B C:List α} {a x: α} (h:InsAt cmp l0 l (A++[a]) x B C) (hx:cmp x a<0):InsAt cmp l0 (A++x :: ((a :: B)++C)) A x (a :: B) C:=by
 refine ⟨rfl,?_,by simpa using h.le,fun b hb=>?_⟩
 · refine List.Perm.trans ?_ h.perm
   rw [h.eq,List.append_assoc];exact List.Perm.append_left A (List.Perm.swap a x (B++C))
 · rcases List.mem_cons.1 hb with q | q
   · rw [q];exact Int.le_of_lt hx
   · exact h.up b q
theorem InsAt.out0 {α :Type} {cmp: α → α →Int} {l0 l B C:List α} {x: α} (h:InsAt cmp l0 l [] x B C):InsO cmp l0 l (B.length+1):=by
 refine ⟨h.perm,?_⟩;rw [h.eq,List.nil_append,List.take_succ_cons,List.take_left];exact List.pairwise_cons.2 ⟨h.up,by have:=h.le;rwa [List.nil_append] at this⟩
theorem InsAt.out {α :Type} {cmp: α → α →Int} (t:PreC cmp) {l0 l A B C:List α} {a x: α} (h:InsAt cmp l0 l (A++[a]) x B C) (hx:¬cmp x a<0):InsO cmp l0 l (A.length+1+B.length+1):=by
 have hax:cmp a x≤0:=by rw [t.anti x a];omega
 refine ⟨h.perm,?_⟩
 have e:l.take (A.length+1+B.length+1)=(A++[a])++x :: B:=by
  rw [h.eq,show (A++[a])++x :: (B++C)=((A++[a])++x :: B)++C by simp,List.take_append_of_le_length (by simp;omega),List.take_of_length_le (by simp;omega)]
 rw [e];have hl:=List.pairwise_append.1 h.le;refine List.pairwise_append.2 ⟨hl.1,List.pairwise_cons.2 ⟨h.up,hl.2.1⟩,fun u hu v hv=>?_⟩
 have hua:u=a∨cmp u a≤0:=by
  rcases List.mem_append.1 hu with q | q
  · exact .inr ((List.pairwise_append.1 hl.1).2.2 u q a (List.mem_singleton.2 rfl))
  · exact .inl (List.mem_singleton.1 q)
 rcases List.mem_cons.1 hv with q | q
 · subst q
   rcases hua with r | r
   · rw [r];exact hax
   · exact t.trans _ _ _ r hax
 · exact hl.2.2 u hu v q
theorem InsO.done {α :Type} {cmp: α → α →Int} {l0 l:List α} {i:Nat} (h:InsO cmp l0 l i) (hi:l.length≤i):l.Perm l0∧Le cmp l:=⟨h.perm,by have:=h.le;rwa [List.take_of_length_le hi] at this⟩
theorem swap_at {α :Type} (A:List α) (a x: α) (D:List α):((A++[a]++x :: D).set (A.length+1) a).set A.length x=A++x :: a :: D:=by
 rw [List.set_append_right _ _ (by simp),List.append_assoc,List.set_append_right _ _ (by simp)];simp
theorem at_x {α :Type} (A:List α) (x: α) (D:List α):(A++x :: D)[A.length]? =some x:=by simp
theorem at_a {α :Type} (A:List α) (a x: α) (D:List α):(A++[a]++x :: D)[A.length]? =some a:=by simp
theorem Raw.put2 {E:TypeId} {w:World} {g:Nat} {css:List (List Value)} {rest:List Value} (h:Raw 2 E w g css rest) {i:Nat} (hi:i<css.length) (u0 u1:Value):Raw 2 E ((w.setCell ⟨g,i * 2,none⟩ u0).setCell ⟨g,i * 2+1,none⟩ u1) g (css.set i [u0,u1]) rest:=by
 have hg:=List.getElem?_eq_getElem hi;have hl:=h.len css[i] (List.getElem_mem hi);have h1:=h.set hg (j:=0) (by decide) u0;have h2:=h1.set (i:=i) (cs:=css[i].set 0 u0) (List.getElem?_set_self hi) (j:=1) (by decide) u1;rw [List.set_set] at h2;rw [Nat.add_zero] at h2
 match h3:css[i],hl with
 | [p,q],_=>rw [h3] at h2;exact h2
theorem Raw.setCells {k:Nat} {E:TypeId} {g:Nat} {css:List (List Value)}:∀ (vs:List Value) {w:World} {rest:List Value} (h:Raw k E w g css rest) {o:Nat} (ho:css.length * k≤o),∃ rest',Raw k E (w.setCells g o vs) g css rest'∧rest'.length=rest.length
 | [],w,rest,h,o,ho=>⟨rest,h,rfl⟩
 | v :: vs,w,rest,h,o,ho=>by
   obtain ⟨rest',h1,h2⟩:=Raw.setCells vs (h.setRest ho v) (o:=o+1) (by omega);exact ⟨rest',h1,by rw [h2,List.length_set]⟩
theorem kGR (g:Nat):∀ (vs:List Value) (w:World) (o q:Nat),q≠g→(w.setCells g o vs).heap[q]? =w.heap[q]?
 | [],w,o,q,h=>rfl
 | v :: vs,w,o,q,h=>(kGR g vs _ (o+1) q h).trans (kAB (fun e=>h e.symm))
theorem Below.setCells {B:Nat} {a:World} {g:Nat} (hg:B≤g):∀ (vs:List Value) {w:World} (h:Below B a w) (o:Nat),Below B a (w.setCells g o vs)
 | [],w,h,o=>h
 | v :: vs,w,h,o=>Below.setCells hg vs (h.setCell hg v) (o+1)
def kept {α :Type} [Inhabited α] (keep:Nat→Bool) (l:List α) (j:Nat):List α :=((List.range j).filter keep).map (fun i=>l.getD i default)
theorem kCH {α :Type} [Inhabited α] (keep:Nat→Bool) (l:List α) (j:Nat):kept keep l (j+1)=if keep j then kept keep l j++[l.getD j default] else kept keep l j:=by
 unfold kept;rw [List.range_succ,List.filter_append,List.map_append];by_cases h:keep j=true
 · rw [if_pos h];simp [h]
 · rw [if_neg h];simp [h]
theorem kept_len {α :Type} [Inhabited α] (keep:Nat→Bool) (l:List α) (j:Nat):(kept keep l j).length≤j:=by
 unfold kept;rw [List.length_map];have:=List.length_filter_le keep (List.range j)
 rwa [List.length_range] at this
theorem kept_all {α :Type} [Inhabited α] (keep:Nat→Bool) (l:List α) (j:Nat) (hj:j≤l.length) (h:∀ i,i<j→keep i=true):kept keep l j=l.take j:=by
 induction j with
 | zero=>rfl
 | succ j ih=>rw [kCH,if_pos (h j (by omega)),ih (by omega) (fun i hi=>h i (by omega)),kBB (by omega)]
theorem kept_filter {α :Type} [Inhabited α] (p: α →Bool) (l:List α) (j:Nat) (hj:j≤l.length):kept (fun i=>p (l.getD i default)) l j=(l.take j).filter p:=by
 induction j with
 | zero=>rfl
 | succ j ih =>
   rw [kCH,kBB (by omega),List.filter_append,ih (by omega)];by_cases h:p (l.getD j default)=true
   · rw [if_pos h,List.filter_cons_of_pos h];rfl
   · rw [if_neg h,List.filter_cons_of_neg h];simp
structure KeepAt {α :Type} [Inhabited α] (keep:Nat→Bool) (l M:List α) (i:Nat):Prop where
 len:M.length=l.length
 front:M.take (kept keep l i).length=kept keep l i
 back:M.drop i=l.drop i
theorem KeepAt.at_ {α :Type} [Inhabited α] {keep:Nat→Bool} {l M:List α} {i:Nat} (h:KeepAt keep l M i) (k:Nat) (hk:i≤k):M.getD k default=l.getD k default:=by
 have h1:(M.drop i)[k - i]? =(l.drop i)[k - i]? :=by rw [h.back]
 rw [List.getElem?_drop,List.getElem?_drop,show i+(k - i)=k by omega] at h1;rw [List.getD_eq_getElem?_getD,List.getD_eq_getElem?_getD,h1]
theorem KeepAt.skip {α :Type} [Inhabited α] {keep:Nat→Bool} {l M:List α} {i:Nat} (h:KeepAt keep l M i) (hk:keep i=false):KeepAt keep l M (i+1) :=
 ⟨h.len,by rw [kCH,hk];exact h.front,by rw [← List.drop_drop,← List.drop_drop,h.back]⟩
theorem KeepAt.put {α :Type} [Inhabited α] {keep:Nat→Bool} {l M:List α} {i:Nat} (h:KeepAt keep l M i) (hi:i<l.length) (hk:keep i=true):KeepAt keep l (M.set (kept keep l i).length (l.getD i default)) (i+1):=by
 have hl:=kept_len keep l i;refine ⟨by rw [List.length_set];exact h.len,?_,?_⟩
 · rw [kCH,if_pos hk,List.length_append,List.length_singleton,kBB (by rw [List.length_set,h.len];omega),List.take_set_of_le (Nat.le_refl _),h.front]
   congr 2
   rw [List.getD_eq_getElem?_getD,List.getElem?_set_self (by rw [h.len];omega)];rfl
 · rw [List.drop_set_of_lt (by omega),← List.drop_drop,h.back,List.drop_drop]
theorem KeepAt.same {α :Type} [Inhabited α] {keep:Nat→Bool} {l:List α} {i:Nat} (hi:i≤l.length) (h:∀ j,j<i→keep j=true):KeepAt keep l l i :=
 ⟨rfl,by rw [kept_all keep l i hi h,List.length_take,Nat.min_eq_left hi],rfl⟩
def newB {α :Type} [Inhabited α] (eq: α → α →Bool) (l:List α) (i:Nat):Bool:=i==0 || !eq (l.getD i default) (l.getD (i - 1) default)
theorem newB_cons {α :Type} [Inhabited α] (eq: α → α →Bool) (a: α) (l:List α) (i:Nat):newB eq (a :: l) (i+2)=newB eq l (i+1):=by
 unfold newB;simp
theorem kept_cons {α :Type} [Inhabited α] (keep:Nat→Bool) (a: α) (l:List α) (n:Nat):kept keep (a :: l) (n+1)=(if keep 0 then [a] else [])++kept (fun i=>keep (i+1)) l n:=by
 induction n with
 | zero=>rw [kCH];by_cases h:keep 0=true <;> simp [h,kept]
 | succ n ih =>
   rw [kCH keep,ih,kCH (fun i=>keep (i+1))];by_cases h:keep (n+1)=true
   · rw [if_pos h,if_pos h,List.append_assoc];simp
   · rw [if_neg h,if_neg h]
theorem compG_kept {α :Type} [Inhabited α] {eq: α → α →Bool} (he:∀ a b,eq a b=true ↔ a=b):∀ l:List α,kKI eq l=kept (newB eq l) l l.length
 | []=>by unfold kKI;rfl
 | [a]=>by unfold kKI;rfl
 | a :: b :: l=>by
   have e1:(fun i=>newB eq (a :: b :: l) (i+1+1))=(fun i=>newB eq (b :: l) (i+1)):=by
    funext i;exact newB_cons eq a (b :: l) i
   have k1:newB eq (a :: b :: l) (0+1)= !eq b a:=by simp [newB]
   have hR:kept (newB eq (a :: b :: l)) (a :: b :: l) (l.length+1+1)=a :: ((if (!eq b a)=true then [b] else [])++kept (fun i=>newB eq (b :: l) (i+1)) l l.length):=by
    rw [kept_cons,kept_cons,if_pos (show newB eq (a :: b :: l) 0=true from rfl),k1,e1];rfl
   have hB:∀ c: α,kept (newB eq (c :: l)) (c :: l) (l.length+1)=c :: kept (fun i=>newB eq (c :: l) (i+1)) l l.length:=fun c=>by
    rw [kept_cons,if_pos (show newB eq (c :: l) 0=true from rfl)];rfl
   rw [List.length_cons,List.length_cons,hR];unfold kKI;by_cases h:eq a b=true
   · have hab:=(he a b).1 h
     subst hab;rw [if_pos h,compG_kept he (a :: l),List.length_cons,hB a,h];rfl
   · have hba:(!eq b a)=true:=by
      rw [Bool.not_eq_true'];exact Bool.eq_false_iff.2 (fun q=>h ((he a b).2 ((he b a).1 q).symm))
     rw [if_neg h,compG_kept he (b :: l),List.length_cons,hB b,hba];rfl
 termination_by l=>l.length
theorem last_of {α :Type} (A:List α) (h:0<A.length):∃ A' a,A=A'++[a]:=by
 rcases List.eq_nil_or_concat A with q | ⟨A',a,q⟩
 · rw [q] at h;simp at h
 · exact ⟨A',a,by rw [q,List.concat_eq_append]⟩
theorem insSort_Lin {S:Blk} {w:World} {base:Nat} {v:Value} {l:List Lin} (h:Own RLin 49 S w base v l) (hbase:base≤w.heap.size) (hl:0<l.length) (hn:l.length≤1000) (g:FuncId) (hen:Ent1 g) (cmp:Lin→Lin→Int) (hc:PreC cmp)
 (hcmp:∀ (S' T':Blk) (W:World) (x y:Lin) (cs ds:List Value),RLin.rd S' W cs x→RLin.rd T' W ds y→Calls Tryz.prog g #[.agg cs.toArray,.agg ds.toArray] W fun e w'=>e= .returned (.int .i64 (cmp x y))∧Below W.heap.size W w') :
 Calls Tryz.prog 192 #[v,.int .i64 0,.int .i64 l.length,.func (.func g) #[] #[]] w fun e w'=>(e= .returned (.tuple #[])∧∃ m,m.Perm l∧Le cmp m∧Own RLin 49 S w' base v m∧Kl v v w w')∧Below base w w':=by
 obtain ⟨gb,c,css0,rest0,rfl,hgb,hR,hL,hlc,hcm,hsz⟩:=h.raw hl;have HR0:=hJ hR;have HL0:=hJ hL;have HI0:=hJ (InsO.start cmp l);have HS0:=hJ hsz;have HPre:=hJ hc;have HCmp:=hJ hcmp;clear hR hL hsz h hcmp hc;generalize hnl:l.length=n at *;have HN:=hJ hnl;clear hnl;go_enter func192,ntmps192
 go_wp2_with fail
 go_loopw [8] (fun iv wr=>∃ (i:Nat) (M:List Lin) (css:List (List Value)) (rest:List Value),1≤i∧i≤n∧iv= .int .i64 i∧Hid (InsO cmp l M i)∧Hid (Raw 2 49 wr gb css rest)∧Hid (Lies RLin S wr gb css M)∧Hid (css.length * 2+rest.length=c * 2)∧Kb gb w wr) (fun iv _=>n - (intOf iv).toNat)
 case atStart=>exact ⟨1,_,_,_,Nat.le_refl _,hl,rfl,HI0,HR0,HL0,HS0,Kb.refl _ _⟩
 case round =>
  obtain ⟨i,M,css,rest,hi1,hin,rfl,HI,HR,HL,HS,hB⟩:=hrel;have HMl:Hid (M.length=n):=hJ (by rw [HI.out.perm.length_eq];exact HN.out);by_cases hlt:i<n
  · have hiM:i<M.length:=by rw [HMl.out];exact hlt
    have HE:=hJ (HI.out.enter hiM);have HAi:Hid ((M.take i).length=i):=hJ (by rw [List.length_take];omega);generalize M[i]=x0 at *;clear hiM
    go_wp2_with fail
    go_loopw [9] (fun jv wr=>∃ (j:Nat) (A:List Lin) (x:Lin) (B C M:List Lin) (css:List (List Value)) (rest:List Value),j≤i∧jv= .int .i64 j∧Hid (A.length=j∧A.length+B.length=i)∧Hid (InsAt cmp l M A x B C)∧Hid (Raw 2 49 wr gb css rest)∧Hid (Lies RLin S wr gb css M)∧Hid (css.length * 2+rest.length=c * 2)∧Kb gb w wr) (fun jv _=>(intOf jv).toNat)
    case atStart=>exact ⟨i,_,_,_,_,_,_,_,Nat.le_refl _,rfl,hJ ⟨HAi.out,by rw [HAi.out];rfl⟩,HE,HR,HL,HS,hB⟩
    case round =>
     obtain ⟨j,A,x,B,C,M,css,rest,hji,rfl,HA,HE,HR,HL,HS,hB⟩:=hrel;clear HI HMl HAi;by_cases hj:0<j
     · obtain ⟨A',a,rfl⟩:=last_of A (by rw [HA.out.1];exact hj)
       obtain ⟨jp,rfl⟩:∃ jp,j=jp+1:=⟨j - 1,by omega⟩
       have HA':Hid (A'.length=jp):=hJ (by have:=HA.out.1;simp at this;exact this);have hgx:M[jp+1]? =some x:=by rw [HE.out.eq];have:=at_x (A'++[a]) x (B++C);rwa [HA.out.1] at this
       have hga:M[jp]? =some a:=by rw [HE.out.eq];have:=at_a A' a x (B++C);rwa [HA'.out] at this
       obtain ⟨csx,hix,hrx⟩:=HL.out.2 _ _ hgx;obtain ⟨csa,hia,hra⟩:=HL.out.2 _ _ hga;have HC:=hJ (fun (t:Later wr)=>HCmp.out _ _ t.w x a csx csa (RLin.below hrx t.b) (RLin.below hra t.b));obtain ⟨_,rfl,ax,cx,rfl,hsx⟩:=hrx;obtain ⟨_,rfl,aa,ca,rfl,hsa⟩:=hra;have x0:=HR.out.cell hix 0 _ rfl;have x1:=HR.out.cell hix 1 _ rfl;have a0:=HR.out.cell hia 0 _ rfl;have a1:=HR.out.cell hia 1 _ rfl;rw [Nat.add_zero] at x0 a0;have HX:=hJ (⟨_,rfl,ax,cx,rfl,hsx⟩:RLin.rd (fun q=>S q∧q≠gb) wr [.int .i64 x.const,.slice ax x.terms.length cx] x);have HAa:=hJ (⟨_,rfl,aa,ca,rfl,hsa⟩:RLin.rd (fun q=>S q∧q≠gb) wr [.int .i64 a.const,.slice aa a.terms.length ca] a)
       have HIx:Hid (jp+1<css.length):=hJ (by
        rcases Nat.lt_or_ge (jp+1) css.length with q | q
        · exact q
        · rw [List.getElem?_eq_none q] at hix;cases hix)
       have HMn:Hid (M.length=n):=hJ (by rw [HE.out.perm.length_eq];exact HN.out);have HIX:=hJ hix;have HIA:=hJ hia;have hgl:=HR.out.lt;clear hgx hga hix hia hsx hsa;have hjn:(jp:Int)+1<(n:Int):=by omega
       have hjn0:(jp:Int)<(n:Int):=by omega
       have hki:(((jp+1:Nat):Int) - 1)=(jp:Int):=by omega
       have hj0:(0:Int)<((jp+1:Nat):Int):=by omega
       have X0:=Later.cell x0;have X1:=Later.cell x1;have A0:=Later.cell a0;have A1:=Later.cell a1;clear x0 x1 a0 a1;have HDn:=hJ (fun q:cmp x a<0=>HE.out.down q);have HOut:=hJ (fun q:¬cmp x a<0=>HE.out.out HPre.out q);have HEq:Hid (M=A'++[a]++x :: (B++C)):=hJ HE.out.eq;generalize cmp x a=r at *;by_cases hr:r<0
       · have HDn2:=hJ (HDn.out hr)
         clear HDn HOut
         go_wp2_with fail
         refine kAA (by kernel_rfl) (by kernel_rfl) ?_
         repeat (go_big_quiet_step (first | fail | exact Later.call (HC.out _)))
         refine wpQuiet_nil ?_;rintro _ ⟨t9,rfl⟩;have HBq:Hid (Below wr.heap.size wr t9.w):=hJ t9.b;generalize t9.w=wq at *;clear X0 X1 A0 A1 HC;have HRq:=hJ (HR.out.below HBq.out hgl);have x0:=HRq.out.cell HIX.out 0 _ rfl;have x1:=HRq.out.cell HIX.out 1 _ rfl;have a0:=HRq.out.cell HIA.out 0 _ rfl;have a1:=HRq.out.cell HIA.out 1 _ rfl;rw [Nat.add_zero] at x0 a0;have f0:=HRq.out.fz ((jp+1) * 2);have f1:=HRq.out.fz ((jp+1) * 2+1);have f2:=HRq.out.fz (jp * 2);have f3:=HRq.out.fz (jp * 2+1)
         go_wp2_with fail
         go_region
         all_goals go_wp2_with fail
         have HLn:Hid (Lies RLin S ((((wq.setCell ⟨gb,(jp+1) * 2,none⟩ (.int .i64 a.const)).setCell ⟨gb,(jp+1) * 2+1,none⟩ (.slice aa a.terms.length ca)).setCell ⟨gb,jp * 2,none⟩ (.int .i64 x.const)).setCell ⟨gb,jp * 2+1,none⟩ (.slice ax x.terms.length cx)) gb ((css.set (jp+1) [.int .i64 a.const,.slice aa a.terms.length ca]).set jp [.int .i64 x.const,.slice ax x.terms.length cx]) (A'++x :: (a :: B++C))):=hJ (by
          have h1:=((((HL.out.below HBq.out).self ((jp+1) * 2) (.int .i64 a.const)).self ((jp+1) * 2+1) (.slice aa a.terms.length ca)).self (jp * 2) (.int .i64 x.const)).self (jp * 2+1) (.slice ax x.terms.length cx);have hf:∀ q,q≠gb→q<wr.heap.size→((((wq.setCell ⟨gb,(jp+1) * 2,none⟩ (.int .i64 a.const)).setCell ⟨gb,(jp+1) * 2+1,none⟩ (.slice aa a.terms.length ca)).setCell ⟨gb,jp * 2,none⟩ (.int .i64 x.const)).setCell ⟨gb,jp * 2+1,none⟩ (.slice ax x.terms.length cx)).heap[q]? =wr.heap[q]? :=fun q hne hlt=>(kAB (fun e=>hne e.symm)).trans ((kAB (fun e=>hne e.symm)).trans ((kAB (fun e=>hne e.symm)).trans ((kAB (fun e=>hne e.symm)).trans (HBq.out.block q hlt))))
          have h2:=(h1.set (jp+1) (RLin.frame HAa.out (fun q hq hlt=>hf q hq.2 hlt))).set jp (RLin.frame HX.out (fun q hq hlt=>hf q hq.2 hlt));have h3:=swap_at A' a x (B++C);rw [HA'.out,← HEq.out] at h3;rw [h3] at h2;exact h2)
         go_roundw
         case rel=>exact ⟨jp,A',x,a :: B,C,_,_,rest,by omega,by go_num,hJ ⟨HA'.out,by have:=HA.out.2;simp at this ⊢;omega⟩,HDn2,hJ ((HRq.out.put2 HIx.out _ _).put2 (i:=jp) (by rw [List.length_set];have:=HIx.out;omega) _ _).drew,hJ HLn.out.drew,hJ (by rw [List.length_set,List.length_set];exact HS.out),(((((hB.later HBq.out).set _ _).set _ _).set _ _).set _ _).drew⟩
         case measure=>simp [intOf]
       · have HOut2:=hJ (HOut.out hr)
         clear HDn HOut
         go_wp2_with fail
         refine kAA (by kernel_rfl) (by kernel_rfl) ?_
         repeat (go_big_quiet_step (first | fail | exact Later.call (HC.out _)))
         refine wpQuiet_nil ?_;rintro _ ⟨t9,rfl⟩;have HBq:Hid (Below wr.heap.size wr t9.w):=hJ t9.b;generalize t9.w=wq at *;clear X0 X1 A0 A1 HC
         go_wp2_with fail
         go_roundw
         case rel=>exact ⟨i+1,_,_,_,by omega,by omega,by go_num,hJ (by have h1:=HOut2.out;have h2:=HA.out.2;simp at h2;rwa [show A'.length+1+B.length+1=i+1 by omega] at h1),hJ (HR.out.below HBq.out hgl),hJ (HL.out.below HBq.out),HS,hB.later HBq.out⟩
         case measure=>simp [intOf];omega
     · obtain rfl:j=0:=by omega
       obtain rfl:A=[]:=List.eq_nil_of_length_eq_zero HA.out.1;have HOut:=hJ HE.out.out0;have hg:¬(0:Int)<((0:Nat):Int):=by omega
       clear hj
       go_wp2_with fail
       refine kAA (by kernel_rfl) (by kernel_rfl) ?_
       repeat (go_big_quiet_step (fail))
       refine wpQuiet_nil ?_;rintro _ ⟨t9,rfl⟩;have HBq:Hid (Below wr.heap.size wr t9.w):=hJ t9.b;have hgl:=HR.out.lt;generalize t9.w=wq at *
       go_wp2_with fail
       go_roundw
       case rel=>exact ⟨i+1,_,_,_,by omega,by omega,by go_num,hJ (by have h1:=HOut.out;have h2:=HA.out.2;simp at h2;rwa [h2] at h1),hJ (HR.out.below HBq.out hgl),hJ (HL.out.below HBq.out),HS,hB.later HBq.out⟩
       case measure=>simp [intOf];omega
  · have HD:=hJ (HI.out.done (by rw [HMl.out];omega))
    go_wp2_with fail
    go_end0;have hO:=HR.out.own HL.out hgb (by rw [HMl.out];exact hlc) hcm HS.out;rw [HMl.out] at hO;exact ⟨⟨rfl,M,HD.out.1,HD.out.2,hO,hB.kl _ _ _ _⟩,hB.below hgb hbase⟩
theorem Raw.put6 {E:TypeId} {w:World} {g:Nat} {css:List (List Value)} {rest:List Value} (h:Raw 6 E w g css rest) {i:Nat} (hi:i<css.length) (u0 u1 u2 u3 u4 u5:Value):Raw 6 E ((((((w.setCell ⟨g,i * 6,none⟩ u0).setCell ⟨g,i * 6+1,none⟩ u1).setCell ⟨g,i * 6+2,none⟩ u2).setCell ⟨g,i * 6+3,none⟩ u3).setCell ⟨g,i * 6+4,none⟩ u4).setCell ⟨g,i * 6+5,none⟩ u5) g (css.set i [u0,u1,u2,u3,u4,u5]) rest:=by
 have hg:=List.getElem?_eq_getElem hi;have hl:=h.len css[i] (List.getElem_mem hi);have h1:=h.set hg (j:=0) (by decide) u0;have h2:=h1.set (i:=i) (List.getElem?_set_self hi) (j:=1) (by decide) u1;rw [List.set_set] at h2;have h3:=h2.set (i:=i) (List.getElem?_set_self hi) (j:=2) (by decide) u2;rw [List.set_set] at h3;have h4:=h3.set (i:=i) (List.getElem?_set_self hi) (j:=3) (by decide) u3;rw [List.set_set] at h4;have h5:=h4.set (i:=i) (List.getElem?_set_self hi) (j:=4) (by decide) u4;rw [List.set_set] at h5;have h6:=h5.set (i:=i) (List.getElem?_set_self hi) (j:=5) (by decide) u5;rw [List.set_set] at h6;rw [Nat.add_zero] at h6
 match h7:css[i],hl with
 | [a,b,c,d,e,f],_=>rw [h7] at h6;exact h6
theorem insSort_Ent {S:Blk} {w:World} {base:Nat} {v:Value} {l:List Ent} (h:Own REnt 60 S w base v l) (hbase:base≤w.heap.size) (hl:0<l.length) (hn:l.length≤1000) (g:FuncId) (hen:Ent1 g) (cmp:Ent→Ent→Int) (hc:PreC cmp)
 (hcmp:∀ (S' T':Blk) (W:World) (x y:Ent) (cs ds:List Value),REnt.rd S' W cs x→REnt.rd T' W ds y→Calls Tryz.prog g #[.agg cs.toArray,.agg ds.toArray] W fun e w'=>e= .returned (.int .i64 (cmp x y))∧Below W.heap.size W w') :
 Calls Tryz.prog 179 #[v,.int .i64 0,.int .i64 l.length,.func (.func g) #[] #[]] w fun e w'=>(e= .returned (.tuple #[])∧∃ m,m.Perm l∧Le cmp m∧Own REnt 60 S w' base v m∧Kl v v w w')∧Below base w w':=by
 obtain ⟨gb,c,css0,rest0,rfl,hgb,hR,hL,hlc,hcm,hsz⟩:=h.raw hl;have HR0:=hJ hR;have HL0:=hJ hL;have HI0:=hJ (InsO.start cmp l);have HS0:=hJ hsz;have HPre:=hJ hc;have HCmp:=hJ hcmp;clear hR hL hsz h hcmp hc;generalize hnl:l.length=n at *;have HN:=hJ hnl;clear hnl;go_enter func179,ntmps179
 go_wp2_with fail
 go_loopw [8] (fun iv wr=>∃ (i:Nat) (M:List Ent) (css:List (List Value)) (rest:List Value),1≤i∧i≤n∧iv= .int .i64 i∧Hid (InsO cmp l M i)∧Hid (Raw 6 60 wr gb css rest)∧Hid (Lies REnt S wr gb css M)∧Hid (css.length * 6+rest.length=c * 6)∧Kb gb w wr) (fun iv _=>n - (intOf iv).toNat)
 case atStart=>exact ⟨1,_,_,_,Nat.le_refl _,hl,rfl,HI0,HR0,HL0,HS0,Kb.refl _ _⟩
 case round =>
  obtain ⟨i,M,css,rest,hi1,hin,rfl,HI,HR,HL,HS,hB⟩:=hrel;have HMl:Hid (M.length=n):=hJ (by rw [HI.out.perm.length_eq];exact HN.out);by_cases hlt:i<n
  · have hiM:i<M.length:=by rw [HMl.out];exact hlt
    have HE:=hJ (HI.out.enter hiM);have HAi:Hid ((M.take i).length=i):=hJ (by rw [List.length_take];omega);generalize M[i]=x0 at *;clear hiM
    go_wp2_with fail
    go_loopw [9] (fun jv wr=>∃ (j:Nat) (A:List Ent) (x:Ent) (B C M:List Ent) (css:List (List Value)) (rest:List Value),j≤i∧jv= .int .i64 j∧Hid (A.length=j∧A.length+B.length=i)∧Hid (InsAt cmp l M A x B C)∧Hid (Raw 6 60 wr gb css rest)∧Hid (Lies REnt S wr gb css M)∧Hid (css.length * 6+rest.length=c * 6)∧Kb gb w wr) (fun jv _=>(intOf jv).toNat)
    case atStart=>exact ⟨i,_,_,_,_,_,_,_,Nat.le_refl _,rfl,hJ ⟨HAi.out,by rw [HAi.out];rfl⟩,HE,HR,HL,HS,hB⟩
    case round =>
     obtain ⟨j,A,x,B,C,M,css,rest,hji,rfl,HA,HE,HR,HL,HS,hB⟩:=hrel;clear HI HMl HAi;by_cases hj:0<j
     · obtain ⟨A',a,rfl⟩:=last_of A (by rw [HA.out.1];exact hj)
       obtain ⟨jp,rfl⟩:∃ jp,j=jp+1:=⟨j - 1,by omega⟩
       have HA':Hid (A'.length=jp):=hJ (by have:=HA.out.1;simp at this;exact this);have hgx:M[jp+1]? =some x:=by rw [HE.out.eq];have:=at_x (A'++[a]) x (B++C);rwa [HA.out.1] at this
       have hga:M[jp]? =some a:=by rw [HE.out.eq];have:=at_a A' a x (B++C);rwa [HA'.out] at this
       obtain ⟨csx,hix,hrx⟩:=HL.out.2 _ _ hgx;obtain ⟨csa,hia,hra⟩:=HL.out.2 _ _ hga;have HC:=hJ (fun (t:Later wr)=>HCmp.out _ _ t.w x a csx csa (REnt.below hrx t.b) (REnt.below hra t.b));obtain ⟨_,rfl,_,_,_,rfl,⟨px,pcx,rfl,hsx⟩,⟨tx,tcx,rfl,htx⟩,⟨qx,qcx,rfl,hqx⟩⟩:=hrx;obtain ⟨_,rfl,_,_,_,rfl,⟨pa,pca,rfl,hsa⟩,⟨ta,tca,rfl,hta⟩,⟨qa,qca,rfl,hqa⟩⟩:=hra;have x0:=HR.out.cell hix 0 _ rfl;have x1:=HR.out.cell hix 1 _ rfl;have x2:=HR.out.cell hix 2 _ rfl;have x3:=HR.out.cell hix 3 _ rfl;have x4:=HR.out.cell hix 4 _ rfl;have x5:=HR.out.cell hix 5 _ rfl;have a0:=HR.out.cell hia 0 _ rfl;have a1:=HR.out.cell hia 1 _ rfl;have a2:=HR.out.cell hia 2 _ rfl;have a3:=HR.out.cell hia 3 _ rfl;have a4:=HR.out.cell hia 4 _ rfl;have a5:=HR.out.cell hia 5 _ rfl;rw [Nat.add_zero] at x0 a0;have HX:=hJ (⟨_,rfl,_,_,_,rfl,⟨px,pcx,rfl,hsx⟩,⟨tx,tcx,rfl,htx⟩,⟨qx,qcx,rfl,hqx⟩⟩:REnt.rd (fun q=>S q∧q≠gb) wr [.string x.name,.slice px x.scheme.params.length pcx,.string x.scheme.result.elem,.string x.scheme.result.shape.row,.slice tx x.scheme.result.shape.dims.length tcx,.slice qx x.scheme.wh.length qcx] x);have HAa:=hJ (⟨_,rfl,_,_,_,rfl,⟨pa,pca,rfl,hsa⟩,⟨ta,tca,rfl,hta⟩,⟨qa,qca,rfl,hqa⟩⟩:REnt.rd (fun q=>S q∧q≠gb) wr [.string a.name,.slice pa a.scheme.params.length pca,.string a.scheme.result.elem,.string a.scheme.result.shape.row,.slice ta a.scheme.result.shape.dims.length tca,.slice qa a.scheme.wh.length qca] a)
       have HIx:Hid (jp+1<css.length):=hJ (by
        rcases Nat.lt_or_ge (jp+1) css.length with q | q
        · exact q
        · rw [List.getElem?_eq_none q] at hix;cases hix)
       have HMn:Hid (M.length=n):=hJ (by rw [HE.out.perm.length_eq];exact HN.out);have HIX:=hJ hix;have HIA:=hJ hia;have hgl:=HR.out.lt;clear hgx hga hix hia hsx hsa htx hta hqx hqa;have hjn:(jp:Int)+1<(n:Int):=by omega
       have hjn0:(jp:Int)<(n:Int):=by omega
       have hki:(((jp+1:Nat):Int) - 1)=(jp:Int):=by omega
       have hj0:(0:Int)<((jp+1:Nat):Int):=by omega
       have X0:=Later.cell x0;have X1:=Later.cell x1;have X2:=Later.cell x2;have X3:=Later.cell x3;have X4:=Later.cell x4;have X5:=Later.cell x5;have A0:=Later.cell a0;have A1:=Later.cell a1;have A2:=Later.cell a2;have A3:=Later.cell a3;have A4:=Later.cell a4;have A5:=Later.cell a5;clear x0 x1 x2 x3 x4 x5 a0 a1 a2 a3 a4 a5;have HDn:=hJ (fun q:cmp x a<0=>HE.out.down q);have HOut:=hJ (fun q:¬cmp x a<0=>HE.out.out HPre.out q);have HEq:Hid (M=A'++[a]++x :: (B++C)):=hJ HE.out.eq;generalize cmp x a=r at *;by_cases hr:r<0
       · have HDn2:=hJ (HDn.out hr)
         clear HDn HOut
         go_wp2_with fail
         refine kAA (by kernel_rfl) (by kernel_rfl) ?_
         repeat (go_big_quiet_step (first | fail | exact Later.call (HC.out _)))
         refine wpQuiet_nil ?_;rintro _ ⟨t9,rfl⟩;have HBq:Hid (Below wr.heap.size wr t9.w):=hJ t9.b;generalize t9.w=wq at *;clear X0 X1 X2 X3 X4 X5 A0 A1 A2 A3 A4 A5 HC;have HRq:=hJ (HR.out.below HBq.out hgl);have x0:=HRq.out.cell HIX.out 0 _ rfl;have x1:=HRq.out.cell HIX.out 1 _ rfl;have x2:=HRq.out.cell HIX.out 2 _ rfl;have x3:=HRq.out.cell HIX.out 3 _ rfl;have x4:=HRq.out.cell HIX.out 4 _ rfl;have x5:=HRq.out.cell HIX.out 5 _ rfl;have a0:=HRq.out.cell HIA.out 0 _ rfl;have a1:=HRq.out.cell HIA.out 1 _ rfl;have a2:=HRq.out.cell HIA.out 2 _ rfl;have a3:=HRq.out.cell HIA.out 3 _ rfl;have a4:=HRq.out.cell HIA.out 4 _ rfl;have a5:=HRq.out.cell HIA.out 5 _ rfl;rw [Nat.add_zero] at x0 a0;have f0:=HRq.out.fz ((jp+1) * 6);have f1:=HRq.out.fz ((jp+1) * 6+1);have f2:=HRq.out.fz ((jp+1) * 6+2);have f3:=HRq.out.fz ((jp+1) * 6+3);have f4:=HRq.out.fz ((jp+1) * 6+4);have f5:=HRq.out.fz ((jp+1) * 6+5);have f6:=HRq.out.fz (jp * 6);have f7:=HRq.out.fz (jp * 6+1);have f8:=HRq.out.fz (jp * 6+2);have f9:=HRq.out.fz (jp * 6+3);have f10:=HRq.out.fz (jp * 6+4);have f11:=HRq.out.fz (jp * 6+5)
         go_wp2_with fail
         go_region
         all_goals go_wp2_with fail
         have HLn:Hid (Lies REnt S ((((((((((((wq.setCell ⟨gb,(jp+1) * 6,none⟩ (.string a.name)).setCell ⟨gb,(jp+1) * 6+1,none⟩ (.slice pa a.scheme.params.length pca)).setCell ⟨gb,(jp+1) * 6+2,none⟩ (.string a.scheme.result.elem)).setCell ⟨gb,(jp+1) * 6+3,none⟩ (.string a.scheme.result.shape.row)).setCell ⟨gb,(jp+1) * 6+4,none⟩ (.slice ta a.scheme.result.shape.dims.length tca)).setCell ⟨gb,(jp+1) * 6+5,none⟩ (.slice qa a.scheme.wh.length qca)).setCell ⟨gb,jp * 6,none⟩ (.string x.name)).setCell ⟨gb,jp * 6+1,none⟩ (.slice px x.scheme.params.length pcx)).setCell ⟨gb,jp * 6+2,none⟩ (.string x.scheme.result.elem)).setCell ⟨gb,jp * 6+3,none⟩ (.string x.scheme.result.shape.row)).setCell ⟨gb,jp * 6+4,none⟩ (.slice tx x.scheme.result.shape.dims.length tcx)).setCell ⟨gb,jp * 6+5,none⟩ (.slice qx x.scheme.wh.length qcx)) gb ((css.set (jp+1) [.string a.name,.slice pa a.scheme.params.length pca,.string a.scheme.result.elem,.string a.scheme.result.shape.row,.slice ta a.scheme.result.shape.dims.length tca,.slice qa a.scheme.wh.length qca]).set jp [.string x.name,.slice px x.scheme.params.length pcx,.string x.scheme.result.elem,.string x.scheme.result.shape.row,.slice tx x.scheme.result.shape.dims.length tcx,.slice qx x.scheme.wh.length qcx]) (A'++x :: (a :: B++C))):=hJ (by
          have h1:=(((((((((((((HL.out.below HBq.out).self ((jp+1) * 6) (.string a.name)).self ((jp+1) * 6+1) (.slice pa a.scheme.params.length pca)).self ((jp+1) * 6+2) (.string a.scheme.result.elem)).self ((jp+1) * 6+3) (.string a.scheme.result.shape.row)).self ((jp+1) * 6+4) (.slice ta a.scheme.result.shape.dims.length tca)).self ((jp+1) * 6+5) (.slice qa a.scheme.wh.length qca)).self (jp * 6) (.string x.name)).self (jp * 6+1) (.slice px x.scheme.params.length pcx)).self (jp * 6+2) (.string x.scheme.result.elem)).self (jp * 6+3) (.string x.scheme.result.shape.row)).self (jp * 6+4) (.slice tx x.scheme.result.shape.dims.length tcx)).self (jp * 6+5) (.slice qx x.scheme.wh.length qcx))
          have hf:∀ q,q≠gb→q<wr.heap.size→((((((((((((wq.setCell ⟨gb,(jp+1) * 6,none⟩ (.string a.name)).setCell ⟨gb,(jp+1) * 6+1,none⟩ (.slice pa a.scheme.params.length pca)).setCell ⟨gb,(jp+1) * 6+2,none⟩ (.string a.scheme.result.elem)).setCell ⟨gb,(jp+1) * 6+3,none⟩ (.string a.scheme.result.shape.row)).setCell ⟨gb,(jp+1) * 6+4,none⟩ (.slice ta a.scheme.result.shape.dims.length tca)).setCell ⟨gb,(jp+1) * 6+5,none⟩ (.slice qa a.scheme.wh.length qca)).setCell ⟨gb,jp * 6,none⟩ (.string x.name)).setCell ⟨gb,jp * 6+1,none⟩ (.slice px x.scheme.params.length pcx)).setCell ⟨gb,jp * 6+2,none⟩ (.string x.scheme.result.elem)).setCell ⟨gb,jp * 6+3,none⟩ (.string x.scheme.result.shape.row)).setCell ⟨gb,jp * 6+4,none⟩ (.slice tx x.scheme.result.shape.dims.length tcx)).setCell ⟨gb,jp * 6+5,none⟩ (.slice qx x.scheme.wh.length qcx)).heap[q]? =wr.heap[q]? :=fun q hne hlt=>(kAB (fun e=>hne e.symm)).trans ((kAB (fun e=>hne e.symm)).trans ((kAB (fun e=>hne e.symm)).trans ((kAB (fun e=>hne e.symm)).trans ((kAB (fun e=>hne e.symm)).trans ((kAB (fun e=>hne e.symm)).trans ((kAB (fun e=>hne e.symm)).trans ((kAB (fun e=>hne e.symm)).trans ((kAB (fun e=>hne e.symm)).trans ((kAB (fun e=>hne e.symm)).trans ((kAB (fun e=>hne e.symm)).trans ((kAB (fun e=>hne e.symm)).trans (HBq.out.block q hlt))))))))))))
          have h2:=(h1.set (jp+1) (REnt.frame HAa.out (fun q hq hlt=>hf q hq.2 hlt))).set jp (REnt.frame HX.out (fun q hq hlt=>hf q hq.2 hlt));have h3:=swap_at A' a x (B++C);rw [HA'.out,← HEq.out] at h3;rw [h3] at h2;exact h2)
         go_roundw
         case rel=>exact ⟨jp,A',x,a :: B,C,_,_,rest,by omega,by go_num,hJ ⟨HA'.out,by have:=HA.out.2;simp at this ⊢;omega⟩,HDn2,hJ ((HRq.out.put6 HIx.out _ _ _ _ _ _).put6 (i:=jp) (by rw [List.length_set];have:=HIx.out;omega) _ _ _ _ _ _).drew,hJ HLn.out.drew,hJ (by rw [List.length_set,List.length_set];exact HS.out),(((((((((((((hB.later HBq.out).set _ _).set _ _).set _ _).set _ _).set _ _).set _ _).set _ _).set _ _).set _ _).set _ _).set _ _).set _ _).drew⟩
         case measure=>simp [intOf]
       · have HOut2:=hJ (HOut.out hr)
         clear HDn HOut
         go_wp2_with fail
         refine kAA (by kernel_rfl) (by kernel_rfl) ?_
         repeat (go_big_quiet_step (first | fail | exact Later.call (HC.out _)))
         refine wpQuiet_nil ?_;rintro _ ⟨t9,rfl⟩;have HBq:Hid (Below wr.heap.size wr t9.w):=hJ t9.b;generalize t9.w=wq at *;clear X0 X1 X2 X3 X4 X5 A0 A1 A2 A3 A4 A5 HC
         go_wp2_with fail
         go_roundw
         case rel=>exact ⟨i+1,_,_,_,by omega,by omega,by go_num,hJ (by have h1:=HOut2.out;have h2:=HA.out.2;simp at h2;rwa [show A'.length+1+B.length+1=i+1 by omega] at h1),hJ (HR.out.below HBq.out hgl),hJ (HL.out.below HBq.out),HS,hB.later HBq.out⟩
         case measure=>simp [intOf];omega
     · obtain rfl:j=0:=by omega
       obtain rfl:A=[]:=List.eq_nil_of_length_eq_zero HA.out.1;have HOut:=hJ HE.out.out0;have hg:¬(0:Int)<((0:Nat):Int):=by omega
       clear hj
       go_wp2_with fail
       refine kAA (by kernel_rfl) (by kernel_rfl) ?_
       repeat (go_big_quiet_step (fail))
       refine wpQuiet_nil ?_;rintro _ ⟨t9,rfl⟩;have HBq:Hid (Below wr.heap.size wr t9.w):=hJ t9.b;have hgl:=HR.out.lt;generalize t9.w=wq at *
       go_wp2_with fail
       go_roundw
       case rel=>exact ⟨i+1,_,_,_,by omega,by omega,by go_num,hJ (by have h1:=HOut.out;have h2:=HA.out.2;simp at h2;rwa [h2] at h1),hJ (HR.out.below HBq.out hgl),hJ (HL.out.below HBq.out),HS,hB.later HBq.out⟩
       case measure=>simp [intOf];omega
  · have HD:=hJ (HI.out.done (by rw [HMl.out];omega))
    go_wp2_with fail
    go_end0;have hO:=HR.out.own HL.out hgb (by rw [HMl.out];exact hlc) hcm HS.out;rw [HMl.out] at hO;exact ⟨⟨rfl,M,HD.out.1,HD.out.2,hO,hB.kl _ _ _ _⟩,hB.below hgb hbase⟩
theorem kCP {s:Str} (h:kAV s=true):s.size≤30:=by
 rcases Nat.lt_or_ge 30 s.size with q | q
 · rw [kJZ s (.inr q)] at h;cases h
 · exact q
theorem elemVar_sz {s:Str} (h:kAW s=true):s.size≤30:=by
 unfold kAW at h;rw [Bool.and_eq_true] at h;exact (of_decide_eq_true h.1).2
theorem list_sz (s:Str):s.toList.length=s.size:=by rw [ByteArray.toList_eq];rfl
theorem elem_sz {s:Str} (h:kFF s=true):s.size≤30:=by
 unfold kFF at h;rw [Bool.or_eq_true,Bool.or_eq_true] at h;rcases h with h | h | h
 · have:=list_sz s
   rw [beq_iff_eq] at h;rw [h] at this;have e:intC.length=3:=rfl;omega
 · have:=list_sz s
   rw [beq_iff_eq] at h;rw [h] at this;have e:boolC.length=4:=rfl;omega
 · exact elemVar_sz h
theorem kGZ {s:Str} (h:s.toList.isEmpty=true):s.size=0:=by
 have:=list_sz s;rw [List.isEmpty_iff] at h;rw [h] at this;exact this.symm
theorem row_sz {s:Str} (h:rowB s=true):s.size≤30:=by
 unfold rowB at h;rw [Bool.or_eq_true] at h;rcases h with h | h
 · have:=kGZ h;omega
 · exact kCP h
theorem lin_sz {x:Lin} (h:kAC x=true):szL x:=fun t ht=>Nat.le_trans (kCP ((kBD h).2.2.2.1 t ht)) (by decide)
theorem kF2 {s:Shp} (h:kAF s=true):rowB s.row=true∧s.dims.length≤6∧∀ x ∈ s.dims,kAC x=true:=by
 have h2:=kEZ h;unfold kAF at h;rw [Bool.and_eq_true] at h;exact ⟨h.1,h2.1,h2.2⟩
theorem shp_sz {s:Shp} (h:kAF s=true):szH s:=by
 obtain ⟨h1,_,h3⟩:=kF2 h;exact ⟨Nat.le_trans (row_sz h1) (by decide),fun x hx=>lin_sz (h3 x hx)⟩
theorem typ_sz {t:Typ} (h:kAE t=true):szT t:=by
 unfold kAE at h;rw [Bool.and_eq_true] at h;exact ⟨Nat.le_trans (elem_sz h.1) (by decide),shp_sz h.2⟩
theorem sch_sz {s:Sch} (h:kAH s=true):szS s:=by
 obtain ⟨_,_,h3,h4,h5⟩:=kA1 h;exact ⟨fun t ht=>typ_sz (h3 t ht),typ_sz h4,fun x hx=>lin_sz (h5 x hx)⟩
theorem bnd_cases {b:Bnd} (h:kFG b=true) :
 (b.kind=1∧kAV b.v=true∧kAC b.dim=true∧b.row.row.toList.isEmpty=true∧b.row.dims.length=0∧b.elem.toList.isEmpty=true) ∨
 (b.kind=2∧kAV b.v=true∧kAF b.row=true∧b.dim.const=0∧b.dim.terms.length=0∧b.elem.toList.isEmpty=true) ∨
 (b.kind=3∧kAW b.v=true∧kFF b.elem=true∧b.dim.const=0∧b.dim.terms.length=0∧b.row.row.toList.isEmpty=true∧b.row.dims.length=0):=by
 unfold kFG at h;by_cases h1:b.kind=1
 · rw [if_pos h1] at h
   unfold kFN at h;simp only [Bool.and_eq_true,beq_iff_eq] at h;obtain ⟨q1,q2,⟨q3,q4⟩,q5⟩:=h;exact .inl ⟨h1,q1,q2,q3,q4,q5⟩
 · rw [if_neg h1] at h
   by_cases h2:b.kind=2
   · rw [if_pos h2] at h
     unfold zeroL at h;simp only [Bool.and_eq_true,beq_iff_eq] at h;obtain ⟨q1,q2,⟨q3,q4⟩,q5⟩:=h;exact .inr (.inl ⟨h2,q1,q2,q3,q4,q5⟩)
   · rw [if_neg h2] at h
     by_cases h3:b.kind=3
     · rw [if_pos h3] at h
       unfold zeroL kFN at h;simp only [Bool.and_eq_true,beq_iff_eq] at h;obtain ⟨q1,q2,⟨q3,q4⟩,q5,q6⟩:=h;exact .inr (.inr ⟨h3,q1,q2,q3,q4,q5,q6⟩)
     · rw [if_neg h3] at h;cases h
theorem shape_bound {S:Blk} {x:Bnd} {cs:List Value} {w:World} (h:RBnd.rd S w cs x) (hv:kFG x=true) (E:Env w) :
 Calls Tryz.prog 186 #[.agg cs.toArray] w fun e w'=>e= .returned (.bool true)∧Below w.heap.size w w':=by
 obtain ⟨t,d,rfl,⟨a,c,rfl,ht⟩,⟨a2,c2,rfl,hd⟩⟩:=h;have hcs:=bnd_cases hv
 have HL:Hid (kAC x.dim=true→∀ W,Below w.heap.size w W→Calls Tryz.prog 85 #[.agg #[.int .i64 x.dim.const,.slice a x.dim.terms.length c]] W fun e w'=>e= .returned (.bool true)∧Below W.heap.size W w') :=
  hJ (fun q W hW=>q ▸ kEK (S:=S) x.dim a _ c W (ht.below hW) (lin_sz q) (E.below hW))
 have HH:Hid (kAF x.row=true→∀ W,Below w.heap.size w W→Calls Tryz.prog 143 #[.agg #[.string x.row.row,.slice a2 x.row.dims.length c2]] W fun e w'=>e= .returned (.bool true)∧Below W.heap.size W w') :=
  hJ (fun q W hW=>q ▸ kD5 (S:=S) (s:=x.row) (cs:=[.string x.row.row,.slice a2 x.row.dims.length c2]) ⟨_,rfl,a2,c2,rfl,hd.below hW⟩ (shp_sz q) (E.below hW))
 have hm1:=ht.small;have hm2:=hd.small;clear ht hd hv;obtain ⟨kind,v,dim,row,elem⟩:=x;simp only at *;generalize dim.terms.length=n at *;generalize row.dims.length=m at *;generalize dim.const=dc at *;obtain ⟨B0,ya,hW0⟩:=box1 w 114 [.int .i64 kind,.string v,.int .i64 dc,.slice a n c,.string row.row,.slice a2 m c2,.string elem];have xa0:=box0 ya 0 _ rfl;have xa1:=box0 ya 1 _ rfl;have xa2:=box0 ya 2 _ rfl;have xa3:=box0 ya 3 _ rfl;have xa4:=box0 ya 4 _ rfl;have xa5:=box0 ya 5 _ rfl;have xa6:=box0 ya 6 _ rfl;clear ya;have E0:=hJ (E.below B0.out);rcases hcs with ⟨rfl,h1,h2,h3,rfl,h5⟩ | ⟨rfl,h1,h2,rfl,rfl,h5⟩ | ⟨rfl,h1,h2,rfl,rfl,h5,rfl⟩
 · have hsz:v.size≤281474976710656:=Nat.le_trans (kCP h1) (by decide)
   have HC:=hJ (h1 ▸ kBP v hsz _ E0.out);have HL:=hJ (HL.out h2);clear h1 h2 HH;cases g1:(dc==0)
   all_goals cases g2:((n:Int)==0)
   all_goals
    go_enter func186,ntmps186
    go_wp2_with fail
    refine (HC.out).mono ?_;rintro e w1 ⟨rfl,hb⟩;have y2:=kAG xa2 _ hb;have y3:=kAG xa3 _ hb;have y6:=kAG xa6 _ hb;have hW:=B0.out.trans (hb.mono B0.out.size);clear xa0 xa1 xa2 xa3 xa4 xa5 xa6
    go_wp2_with fail
    refine (HL.out _ hW).mono ?_;rintro e w2 ⟨rfl,hb2⟩;have z6:=kAG y6 _ hb2
    go_wp2_with fail
    go_ret;exact ⟨rfl,hW.trans (hb2.mono hW.size)⟩
 · have hsz:v.size≤281474976710656:=Nat.le_trans (kCP h1) (by decide)
   have HC:=hJ (h1 ▸ kBP v hsz _ E0.out);have HH:=hJ (HH.out h2);clear h1 h2 HL;cases g1:row.row.toList.isEmpty
   all_goals cases g2:((m:Int)==0)
   all_goals
    go_enter func186,ntmps186
    go_wp2_with fail
    refine (HC.out).mono ?_;rintro e w1 ⟨rfl,hb⟩;have y4:=kAG xa4 _ hb;have y5:=kAG xa5 _ hb;have y6:=kAG xa6 _ hb;have hW:=B0.out.trans (hb.mono B0.out.size);clear xa0 xa1 xa2 xa3 xa4 xa5 xa6
    go_wp2_with fail
    refine (HH.out _ hW).mono ?_;rintro e w2 ⟨rfl,hb2⟩;have z6:=kAG y6 _ hb2
    go_wp2_with fail
    go_ret;exact ⟨rfl,hW.trans (hb2.mono hW.size)⟩
 · have hsz:v.size≤281474976710656:=Nat.le_trans (elemVar_sz h1) (by decide)
   have hsz2:elem.size≤281474976710656:=Nat.le_trans (elem_sz h2) (by decide);have HC:=hJ (h1 ▸ kDS v hsz (w.alloc (.cells #[.int .i64 3,.string v,.int .i64 0,.slice a 0 c,.string row.row,.slice a2 0 c2,.string elem] 114)));have h2:((elem.toList==[105,110,116]) || ((elem.toList==[98,111,111,108]) || kAW elem))=true:=h2;clear h1 HL HH;by_cases q1:(elem.toList==[105,110,116])=true
   · clear h2
     go_enter func186,ntmps186
     go_wp2_with fail
     refine (HC.out).mono ?_;rintro e w1 ⟨rfl,hb⟩;have y6:=kAG xa6 _ hb;have hW:=B0.out.trans (hb.mono B0.out.size);clear xa0 xa1 xa2 xa3 xa4 xa5 xa6
     go_wp2_with fail
     go_ret;exact ⟨rfl,hW⟩
   have q1:(elem.toList==[105,110,116])=false:=by simpa using q1
   by_cases q2:(elem.toList==[98,111,111,108])=true
   · clear h2
     go_enter func186,ntmps186
     go_wp2_with fail
     refine (HC.out).mono ?_;rintro e w1 ⟨rfl,hb⟩;have y6:=kAG xa6 _ hb;have hW:=B0.out.trans (hb.mono B0.out.size);clear xa0 xa1 xa2 xa3 xa4 xa5 xa6
     go_wp2_with fail
     go_ret;exact ⟨rfl,hW⟩
   have q2:(elem.toList==[98,111,111,108])=false:=by simpa using q2
   have q3:kAW elem=true:=by rw [q1,q2] at h2;exact h2
   have HC2:=hJ (fun w=>q3 ▸ kDS elem hsz2 w);clear h2 q3;go_enter func186,ntmps186
   go_wp2_with fail
   refine (HC.out).mono ?_;rintro e w1 ⟨rfl,hb⟩;have y6:=kAG xa6 _ hb;have hW:=B0.out.trans (hb.mono B0.out.size);clear xa0 xa1 xa2 xa3 xa4 xa5 xa6
   go_wp2_with fail
   refine (HC2.out _).mono ?_;rintro e w2 ⟨rfl,hb2⟩
   go_wp2_with fail
   go_ret;exact ⟨rfl,hW.trans (hb2.mono hW.size)⟩
def GoodV (x:Bnd):Prop:=x=bare x.kind x.v∧((x.kind=1∧kAV x.v=true)∨(x.kind=2∧kAV x.v=true)∨(x.kind=3∧kAW x.v=true))
structure InvV (l:List Bnd):Prop where
 good:∀ x ∈ l,GoodV x
 one:∀ i,i<l.length→(l.take i).any (isB (l.getD i default).kind (l.getD i default).v)=false
theorem kJ9 {l:List Bnd} {k:Int} {v:Str}:kB2 l k v<0 ↔ l.any (isB k v)=false:=by
 unfold kB2 idx
 constructor
 · intro h
   cases ha:l.any (isB k v) with
   | true=>rw [ha,if_pos rfl] at h;omega
   | false=>rfl
 · intro h;rw [h,if_neg (by decide)];decide
theorem InvV.nil:InvV []:=⟨fun x hx=>by simp at hx,fun i hi=>by simp at hi⟩
theorem InvV.add {l:List Bnd} (h:InvV l) {k:Int} {v:Str} (hg:GoodV (bare k v)):InvV (addV l k v):=by
 unfold addV
 split
 · exact h
 · next q =>
   have hn:=kJ9.1 (show kB2 l k v<0 by omega);refine ⟨fun x hx=>?_,fun i hi=>?_⟩
   · rcases List.mem_append.1 hx with r | r
     · exact h.good x r
     · rw [List.mem_singleton.1 r];exact hg
   · rw [List.length_append] at hi
     rcases Nat.lt_or_ge i l.length with r | r
     · have e:(l++[bare k v]).getD i default=l.getD i default:=by
        rw [List.getD_eq_getElem?_getD,List.getD_eq_getElem?_getD,List.getElem?_append_left r]
       rw [e,List.take_append_of_le_length (Nat.le_of_lt r)];exact h.one i r
     · have hi2:i=l.length:=by simp at hi;omega
       subst hi2
       have e:(l++[bare k v]).getD l.length default=bare k v:=by
        rw [List.getD_eq_getElem?_getD,List.getElem?_append_right (Nat.le_refl _)];simp
       rw [e,List.take_left];exact hn
theorem InvV.addAll {l:List Bnd} (h:InvV l) (ns:List Str) (hn:∀ n ∈ ns,kAV n=true):InvV (addAll l ns):=by
 induction ns generalizing l with
 | nil=>exact h
 | cons n ns ih=>exact ih (h.add ⟨rfl,.inl ⟨rfl,hn n (List.mem_cons_self ..)⟩⟩) (fun m hm=>hn m (List.mem_cons_of_mem _ hm))
theorem InvV.addBs {l:List Bnd} (h:InvV l) (vs:List Bnd) (hn:∀ x ∈ vs,GoodV x):InvV (addBs l vs):=by
 induction vs generalizing l with
 | nil=>exact h
 | cons x vs ih =>
   refine ih (h.add ?_) (fun m hm=>hn m (List.mem_cons_of_mem _ hm));have:=hn x (List.mem_cons_self ..);rw [← this.1];exact this
theorem lin_names {x:Lin} (h:kAC x=true):∀ n ∈ kA0 x,kAV n=true:=by
 intro n hn;obtain ⟨t,ht,rfl⟩:=List.mem_map.1 hn;exact (kBD h).2.2.2.1 t ht
theorem lins_names {l:List Lin} (h:∀ x ∈ l,kAC x=true):∀ n ∈ l.flatMap kA0,kAV n=true:=by
 intro n hn;obtain ⟨x,hx,q⟩:=List.mem_flatMap.1 hn;exact lin_names (h x hx) n q
theorem varsV_inv {s:Shp} (h:kAF s=true):InvV (kIF s):=by
 unfold kIF;rw [if_pos h];unfold varsS;obtain ⟨h1,_,h3⟩:=kF2 h;refine InvV.addAll ?_ _ (lins_names h3);unfold rowV
 split
 · exact InvV.nil
 · next q =>
   unfold rowB at h1;rw [Bool.or_eq_true] at h1;rcases h1 with r | r
   · exact absurd r q
   · exact InvV.nil.add ⟨rfl,.inr (.inl ⟨rfl,r⟩)⟩
theorem varsTy_inv {t:Typ} (h:kAE t=true):InvV (kDZ t):=by
 unfold kDZ;rw [if_pos h];unfold kAE at h;rw [Bool.and_eq_true] at h
 split
 · next q=>exact (varsV_inv h.2).add ⟨rfl,.inr (.inr ⟨rfl,q⟩)⟩
 · exact varsV_inv h.2
def kCK (l:List Typ):List Bnd:=l.foldl (fun o t=>addBs o (kDZ t)) []
theorem varsAll_inv {l:List Typ} (h:∀ t ∈ l,kAE t=true):InvV (kCK l):=by
 unfold kCK
 suffices H:∀ (l:List Typ) (o:List Bnd),(∀ t ∈ l,kAE t=true)→InvV o→InvV (l.foldl (fun o t=>addBs o (kDZ t)) o) from H l [] h InvV.nil
 intro l
 induction l with
 | nil=>exact fun o _ h=>h
 | cons t l ih=>exact fun o ht h=>ih _ (fun u hu=>ht u (List.mem_cons_of_mem _ hu)) (h.addBs _ (varsTy_inv (ht t (List.mem_cons_self ..))).good)
theorem allT_valid {s:Sch} (h:kAH s=true):∀ t ∈ allT s,kAE t=true:=by
 obtain ⟨_,_,h3,h4,_⟩:=kA1 h;intro t ht;unfold allT at ht;rcases List.mem_append.1 ht with q | q
 · exact h3 t q
 · rw [List.mem_singleton.1 q];exact h4
theorem kIW {s:Sch} (h:kAH s=true):InvV (kB8 s):=by
 unfold kB8;rw [if_pos h];exact (varsAll_inv (allT_valid h)).addAll _ (lins_names (kA1 h).2.2.2.2)
theorem addBs_len (vs:List Bnd):∀ l:List Bnd,(addBs l vs).length≤l.length+vs.length:=by
 induction vs with
 | nil=>intro l;exact Nat.le_refl _
 | cons x vs ih =>
   intro l;have h1:=ih (addV l x.kind x.v);have h2:=addV_len l x.kind x.v
   show (addBs (addV l x.kind x.v) vs).length≤_
   rw [List.length_cons];omega
theorem varsTy_len (t:Typ):(kDZ t).length≤101:=by
 unfold kDZ;have h1:=varsV_len t.shape
 split
 · split
   · have h2:=addV_len (kIF t.shape) 3 t.elem;omega
   · omega
 · exact Nat.zero_le _
theorem kIX (l:List Typ):(kCK l).length≤l.length * 101:=by
 unfold kCK
 suffices H:∀ (l:List Typ) (o:List Bnd),(l.foldl (fun o t=>addBs o (kDZ t)) o).length≤o.length+l.length * 101 by
  have:=H l [];simpa using this
 intro l
 induction l with
 | nil=>intro o;simp
 | cons t l ih =>
   intro o;have h1:=ih (addBs o (kDZ t));have h2:=addBs_len (kDZ t) o;have h3:=varsTy_len t;rw [List.foldl_cons,List.length_cons];omega
theorem varsSch_len {s:Sch}:(kB8 s).length≤3000:=by
 unfold kB8
 split
 · next h =>
   obtain ⟨h1,h2,_,_,h5⟩:=kA1 h;have q1:=kDQ (s.wh.flatMap kA0) ((allT s).foldl (fun o t=>addBs o (kDZ t)) []);have q2:=kIX (allT s);have q3:=kJ8 s.wh h5;have q4:(allT s).length≤13:=by unfold allT;rw [List.length_append];simp;omega
   unfold kCK at q2;omega
 · exact Nat.zero_le _
theorem dec_len:∀ (k n:Nat),n<10 ^ (k+1)→(Lib.decDigits n).length≤k+1
 | 0,n,h=>by unfold Lib.decDigits;rw [dif_pos (by simpa using h)];simp
 | k+1,n,h=>by
   unfold Lib.decDigits
   split
   · simp
   · rw [List.length_append]
     have:=dec_len k (n / 10) (by rw [Nat.div_lt_iff_lt_mul (by decide)];rw [Nat.pow_succ] at h;exact h);simp;omega
theorem nm_list (c:UInt8) (n:Nat):(nm c n).data.toList=c :: Lib.decDigits n:=by
 unfold nm;rw [ByteArray.data_append];simp
theorem nm_size (c:UInt8) (n:Nat) (h:n≤3000):1≤(nm c n).size∧(nm c n).size≤5:=by
 have h1:=dec_len 3 n (by omega);have h2:(nm c n).size=(nm c n).data.toList.length:=rfl;rw [h2,nm_list,List.length_cons];omega
theorem nm_zero (c:UInt8) (n:Nat):bt (nm c n) 0=(c.toNat:Int):=by
 apply kKK;rw [nm_list];rfl
theorem nm_digit (c:UInt8) (n i:Nat) (h0:0<i) (h:i<(nm c n).size):kAN (bt (nm c n) i)=true:=by
 obtain ⟨d,hd,e⟩:=at_bt (nm c n) i h;rw [e];rw [nm_list] at hd;obtain ⟨j,rfl⟩:∃ j,i=j+1:=⟨i - 1,by omega⟩
 rw [List.getElem?_cons_succ] at hd;have:=dec_digit n d (List.mem_iff_getElem?.2 ⟨j,hd⟩);unfold kAN;exact decide_eq_true (by omega)
theorem nm_name (c:UInt8) (hc:97≤c.toNat∧c.toNat≤122) (n:Nat) (h:n≤3000):kAV (nm c n)=true:=by
 have h0:=nm_zero c n;have h1:=nm_size c n h;rw [kH6 _ (by rw [h0];omega),Bool.and_eq_true];refine ⟨decide_eq_true ⟨h1.1,by omega⟩,kDG fun i hi=>?_⟩;rcases Nat.eq_zero_or_pos i with q | q
 · subst q
   rw [h0];unfold kAR;rw [decide_eq_true (by omega)];rfl
 · rw [nm_digit c n i q hi]
   have:(i != 0)=true:=bne_iff_ne.2 (by omega);rw [this];simp
theorem nm_elem (n:Nat) (h:n≤3000):kAW (nm 65 n)=true:=by
 have h0:=nm_zero 65 n;have h1:=nm_size 65 n h;unfold kAW;rw [Bool.and_eq_true,Bool.and_eq_true];refine ⟨decide_eq_true ⟨h1.1,by omega⟩,decide_eq_true (by rw [h0];decide),kDG fun i hi=>?_⟩;rcases Nat.eq_zero_or_pos i with q | q
 · subst q;rfl
 · rw [nm_digit 65 n i q hi];simp
theorem cnt_le (k:Int) (l:List Bnd):cntK k l≤l.length:=List.countP_le_length
theorem renB_kind (n:Nat) (b:Bnd):(renB n b).kind=b.kind∧(renB n b).v=b.v:=by
 unfold renB
 split
 · exact ⟨rfl,rfl⟩
 · split <;> exact ⟨rfl,rfl⟩
theorem ren_len (l:List Bnd):(ren l).length=l.length:=by unfold ren;rw [List.length_map,List.length_range]
theorem ren_at {l:List Bnd} {i:Nat} (h:i<l.length):(ren l).getD i default=renAt l i:=by
 unfold ren;rw [List.getD_eq_getElem?_getD,List.getElem?_map,List.getElem?_range h];rfl
theorem renB_valid {n:Nat} (hn:n≤3000) {b:Bnd} (h:GoodV b):kFG (renB n b)=true:=by
 obtain ⟨e,h⟩:=h;generalize b.kind=k at *;generalize b.v=v at *;subst e;have e0:(⟨#[]⟩:Str).toList.isEmpty=true:=by rw [ByteArray.toList_eq];rfl
 have e1:kFN ⟨⟨#[]⟩,[]⟩=true:=by unfold kFN;rw [e0];rfl
 rcases h with ⟨rfl,h⟩ | ⟨rfl,h⟩ | ⟨rfl,h⟩
 · show (kAV v && (kAC (varL (nm 110 n)) && (kFN ⟨⟨#[]⟩,[]⟩ && (⟨#[]⟩:Str).toList.isEmpty)))=true
   rw [h,varL_valid (nm_name 110 (by decide) n hn),e0,e1];rfl
 · show (kAV v && (kAF ⟨nm 114 n,[]⟩ && (zeroL ⟨0,[]⟩ && (⟨#[]⟩:Str).toList.isEmpty)))=true
   have:kAF ⟨nm 114 n,[]⟩=true:=by
    unfold kAF rowB;simp [nm_name 114 (by decide) n hn]
   rw [h,this,e0];rfl
 · show (kAW v && (kFF (nm 65 n) && (zeroL ⟨0,[]⟩ && kFN ⟨⟨#[]⟩,[]⟩)))=true
   have:kFF (nm 65 n)=true:=by unfold kFF;rw [nm_elem n hn];simp
   rw [h,this,e1];rfl
theorem ren_valid {l:List Bnd} (h:InvV l) (hl:l.length≤3000):kCU (ren l)=true:=by
 unfold kCU;rw [List.all_eq_true];intro i hi;have hi:=List.mem_range.1 hi;rw [ren_len] at hi;unfold bndOk;rw [ren_at hi,Bool.and_eq_true];have hg:=h.good _ (kAJ hi);refine ⟨renB_valid (Nat.le_trans (cnt_le _ _) (by rw [List.length_take];omega)) hg,decide_eq_true (kJ9.2 ?_)⟩;have hk:=renB_kind (cntK (l.getD i default).kind (l.take (i+1))) (l.getD i default);unfold renAt;rw [hk.1,hk.2,List.any_eq_false];intro x hx;have h1:=List.any_eq_false.1 (h.one i hi);obtain ⟨j,hj,e⟩:=List.getElem_of_mem hx;rw [List.length_take,ren_len] at hj;have hjl:j<l.length:=by omega
 have e2:x=renAt l j:=by
  rw [← e,List.getElem_take,← ren_at hjl,List.getD_eq_getElem?_getD,List.getElem?_eq_getElem (by rw [ren_len];exact hjl)];rfl
 have hkj:=renB_kind (cntK (l.getD j default).kind (l.take (j+1))) (l.getD j default)
 have h2:=h1 (l.getD j default) (by
  rw [List.mem_iff_getElem?];exact ⟨j,by rw [List.getElem?_take,if_pos (by omega)];exact kEN hjl⟩)
 rw [e2];unfold renAt isB;rw [hkj.1,hkj.2];exact h2
theorem canon_binds {s:Sch} (h:kAH s=true):kCU (ren (kB8 s))=true:=ren_valid (kIW h) varsSch_len
def Named (l:List Coef):Prop:=∀ t ∈ l,kAV t.v=true
theorem plus_names {l:List Coef} (hs:Srt l) (h:Named l) {s:Str} (hn:kAV s=true) (c:Int):Named (plus l s c):=fun t ht=>by
 unfold plus at ht;rw [kGA hs] at ht;rcases ins_mem s c l t (List.mem_filter.1 ht).1 with q | q
 · rw [q];exact hn
 · exact h t q
theorem times_names (x:List Coef) (k:Int) (hx:Named x):∀ l:List Coef,Srt l→Named l→Named (kC7 l x k):=by
 induction x with
 | nil=>exact fun l _ h=>h
 | cons t x ih=>exact fun l hs h=>ih (fun u hu=>hx u (List.mem_cons_of_mem _ hu)) _ (kJW hs _ _) (plus_names hs h (hx t (List.mem_cons_self ..)) _)
theorem subRun_names {b:List Bnd} (hg:GoodB b) (c:Int) (ts:List Coef) (ht:Named ts):Srt (kG8 b c ts).terms∧Named (kG8 b c ts).terms:=by
 suffices H:∀ (ts:List Coef) (acc:Lin),Named ts→Srt acc.terms→Named acc.terms→Srt (ts.foldl (fun acc t=>kG6 acc (sub1 b t.v) t.c) acc).terms∧Named (ts.foldl (fun acc t=>kG6 acc (sub1 b t.v) t.c) acc).terms from H ts ⟨c,[]⟩ ht List.Pairwise.nil (fun t ht=>by simp at ht)
 intro ts
 induction ts with
 | nil=>exact fun acc _ h1 h2=>⟨h1,h2⟩
 | cons t ts ih =>
   intro acc ht h1 h2;exact ih _ (fun u hu=>ht u (List.mem_cons_of_mem _ hu)) (times_srt _ _ _ h1) (times_names _ _ (kBD (sub1_valid hg (ht t (List.mem_cons_self ..)))).2.2.2.1 _ h1 h2)
theorem subRaw_sz {b:List Bnd} (hg:GoodB b) {x:Lin} (h:kAC x=true):szL (kAM b x):=fun t ht=>Nat.le_trans (kCP ((subRun_names hg x.const x.terms (kBD h).2.2.2.1).2 t ht)) (by decide)
open Go.RowKit Go.Maps
theorem strKey:Keyed Tryz.prog 9:=string_keyed underlying9
theorem zeroInt (w:World):(zeroValue 3).run Tryz.prog w= .ok (.int .i64 0) w:=by kernel_rfl
abbrev mapRd (P:Program):Value→Option (DataW Unit × List MemPlace):=plainElem P 3
structure MapF (w:World) (b n:Nat) (D:DataW Unit) (f:Str→Int):Prop where
 own:w.ownsMap Tryz.prog 9 (mapRd Tryz.prog) b n D
 at_:∀ s:Str,D.atKey (.string s.data.toList) (.lit (.int .i64 0))= .lit (.int .i64 (f s))
theorem MapF.kept {w w':World} {b n:Nat} {D:DataW Unit} {f:Str→Int} (h:MapF w b n D f) (hb:Below w.heap.size w w'):MapF w' b n D f :=
 ⟨h.own.kept ⟨hb.os,hb.tape,hb.output,hb.size,fun k hk _=>hb.block k hk⟩ (row:=none) (by simp),h.at_⟩
theorem MapF.lt {w:World} {b n:Nat} {D:DataW Unit} {f:Str→Int} (h:MapF w b n D f):b<w.heap.size:=h.own.lt
theorem MapF.setCell {w:World} {b n:Nat} {D:DataW Unit} {f:Str→Int} (h:MapF w b n D f) {a:Addr} (ha:a.block≠b) (u:Value):MapF (w.setCell a u) b n D f:=by
 obtain ⟨es,clock,h1,h2⟩:=h.own;exact ⟨⟨es,clock,(kAB ha).trans h1,h2⟩,h.at_⟩
theorem MapF.made (w:World):MapF (w.alloc (.map #[] 0)) w.heap.size 0 (.map []) (fun _=>0):=⟨World.ownsMap_made _ _ _ _,fun s=>rfl⟩
theorem MapF.look {w:World} {b n:Nat} {D:DataW Unit} {f:Str→Int} (h:MapF w b n D f) (s:Str) (hs:s.size≤maxLen):(Instr.lookup 141 (.map (some b)) (.string s) false).run Tryz.prog w= .ok (.int .i64 (f s)) w:=by
 obtain ⟨c,hrun,hat,_⟩:=h.own.lookup_int strKey underlying141 underlying3 (zeroInt w) (WideMaps.keyOf_string_mk underlying9 hs);rw [h.at_ s] at hat;rw [hrun]
 injection hat with hat
 injection hat with _ hat
 rw [hat]
theorem MapF.put {w:World} {b n:Nat} {D:DataW Unit} {f:Str→Int} (h:MapF w b n D f) (hn:n<maxLen) (s:Str) (hs:s.size≤maxLen) (c:Int) (hc: -9223372036854775808≤c∧c≤9223372036854775807) :
 ∃ w' D',(Instr.mapUpdate 141 (.map (some b)) (.string s) (.int .i64 c)).run Tryz.prog w= .ok () w'∧MapF w' b (n+1) D' (fun v=>if seq s v then c else f v)∧w.grownBy w' (some b):=by
 obtain ⟨w',h1,h2,h3⟩:=h.own.update strKey underlying141 hn (WideMaps.keyOf_string_mk underlying9 hs) (plainElem_int underlying3 (WalkArith.wf_i64 hc));refine ⟨w',_,h1,⟨h2,fun v=>?_⟩,h3⟩;obtain ⟨es,hD,_⟩:=h.own.entries strKey;by_cases hv:seq s v=true
 · rw [← (kA3 s v).1 hv,seq_refl]
   exact atKey_put_same (by rw [hD];first | exact ⟨_,rfl⟩ | trivial) (strKey.key (WideMaps.keyOf_string_mk underlying9 hs)) _ _
 · rw [if_neg hv,atKey_put_other (fun e=>hv ?_)]
   · exact h.at_ v
   · injection e with e
     exact (kA3 s v).2 (ByteArray.ext (Array.toList_inj.1 e.symm))
structure K2 (p b:Nat) (w w':World):Prop where
 os:w'.os=w.os
 tape:w'.tape=w.tape
 output:w'.output=w.output
 size:w.heap.size≤w'.heap.size
 block:∀ k,k<w.heap.size→k≠p→k≠b→w'.heap[k]? =w.heap[k]?
theorem K2.refl (p b:Nat) (w:World):K2 p b w w:=⟨rfl,rfl,rfl,Nat.le_refl _,fun _ _ _ _=>rfl⟩
theorem K2.trans {p b:Nat} {w w' w'':World} (h:K2 p b w w') (h':K2 p b w' w''):K2 p b w w'' :=
 ⟨h'.os.trans h.os,h'.tape.trans h.tape,h'.output.trans h.output,Nat.le_trans h.size h'.size,fun k hk h1 h2=>(h'.block k (Nat.lt_of_lt_of_le hk h.size) h1 h2).trans (h.block k hk h1 h2)⟩
theorem K2.of_below {p b:Nat} {w w':World} (h:Below w.heap.size w w'):K2 p b w w':=⟨h.os,h.tape,h.output,h.size,fun k hk _ _=>h.block k hk⟩
theorem K2.of_grown {p b:Nat} {w w':World} (h:w.grownBy w' (some b)):K2 p b w w':=⟨h.os,h.tape,h.output,h.size,fun k hk _ h2=>h.block k hk (fun e=>h2 (by cases e;rfl))⟩
theorem K2.set {p b:Nat} (w:World) (j:Nat) (u:Value):K2 p b w (w.setCell ⟨p,j,none⟩ u):=⟨rfl,rfl,rfl,by simp,fun k _ h1 _=>kAB (fun e=>h1 e.symm)⟩
theorem K2.below {p b B:Nat} {w w':World} (h:K2 p b w w') (hp:B≤p) (hb:B≤b) (hB:B≤w.heap.size):Below B w w':=⟨h.os,h.tape,h.output,h.size,fun k hk=>h.block k (by omega) (by omega) (by omega)⟩
theorem K2.bx {p b:Nat} {w w':World} (h:K2 p b w w') {g:Nat} {E:TypeId} {cs:List Value} (hb:Bx w g E cs) (h1:g≠p) (h2:g≠b):Bx w' g E cs:=(h.block g hb.lt h1 h2).trans hb
theorem insSort_none (w:World):Calls Tryz.prog 244 #[.slice none 0 0,.int .i64 0,.int .i64 0] w fun e w'=>e= .returned (.tuple #[])∧Below w.heap.size w w':=by
 go_enter func244,ntmps244
 go_wp2_with fail
 go_loopw [6] (fun i wr=>i= .int .i64 1∧Below w.heap.size w wr) (fun _ _=>0)
 case atStart=>exact ⟨rfl,Below.refl _ _⟩
 case round =>
  obtain ⟨rfl,hB⟩:=hrel
  go_wp2_with fail
  go_end0;exact ⟨rfl,hB⟩
theorem pdq_none (l:Int) (w:World):Calls Tryz.prog 218 #[.slice none 0 0,.int .i64 0,.int .i64 0,.int .i64 l] w fun e w'=>e= .returned (.tuple #[])∧Below w.heap.size w w':=by
 go_enter func218,ntmps218
 go_wp2_with fail
 go_loopw [1,2] (fun a b wr=>a= .int .i64 0∧b= .int .i64 0∧Below w.heap.size w wr) (fun _ _ _=>0)
 case atStart=>exact ⟨rfl,rfl,Below.refl _ _⟩
 case round =>
  obtain ⟨rfl,rfl,hB⟩:=hrel
  go_wp2_with fail
  refine (insSort_none _).mono ?_;rintro e w1 ⟨rfl,hb⟩
  go_wp2_with fail
  refine bodyPost_ret (results_none rfl _ _ _) rfl ?_;exact ⟨rfl,hB.trans (hb.mono hB.size)⟩
theorem sort_none (w:World):Calls Tryz.prog 173 #[.slice none 0 0] w fun e w'=>e= .returned (.tuple #[])∧Below w.heap.size w w':=by
 go_enter func173,ntmps173
 go_wp2_with fail
 refine (Tryz.bits_Len 0 _ (by omega) (by omega)).mono ?_;rintro e w1 ⟨rfl,rfl⟩
 go_wp2_with fail
 refine (pdq_none _ _).mono ?_;rintro e w2 ⟨rfl,hb⟩
 go_wp2_with fail
 go_end0;exact ⟨rfl,hb⟩
theorem insSort_Ent0 (a:Option Addr) (c:Nat) (w:World) (g:FuncId):Calls Tryz.prog 179 #[.slice a 0 c,.int .i64 0,.int .i64 0,.func (.func g) #[] #[]] w fun e w'=>e= .returned (.tuple #[])∧w=w':=by
 go_enter func179,ntmps179
 go_wp2_with fail
 go_loopw [8] (fun i wr=>i= .int .i64 1∧w=wr) (fun _ _=>0)
 case atStart=>exact ⟨rfl,rfl⟩
 case round =>
  obtain ⟨rfl,rfl⟩:=hrel
  go_wp2_with fail
  go_end0;exact ⟨rfl,rfl⟩
def SrtedE (S:Blk) (base:Nat) (cmp:Ent→Ent→Int) (l:List Ent) (v:Value) (w w':World):Prop:=∃ m,m.Perm l∧Le cmp m∧Own REnt 60 S w' base v m∧Kl v v w w'
theorem insSort_EntA {S:Blk} {w:World} {base:Nat} {v:Value} {l:List Ent} (h:Own REnt 60 S w base v l) (hbase:base≤w.heap.size) (hn:l.length≤12) (g:FuncId) (hen:Ent1 g) (cmp:Ent→Ent→Int) (hc:PreC cmp)
 (hcmp:∀ (S' T':Blk) (W:World) (x y:Ent) (cs ds:List Value),REnt.rd S' W cs x→REnt.rd T' W ds y→Calls Tryz.prog g #[.agg cs.toArray,.agg ds.toArray] W fun e w'=>e= .returned (.int .i64 (cmp x y))∧Below W.heap.size W w') :
 Calls Tryz.prog 179 #[v,.int .i64 0,.int .i64 l.length,.func (.func g) #[] #[]] w fun e w'=>(e= .returned (.tuple #[])∧SrtedE S base cmp l v w w')∧Below base w w':=by
 by_cases hl:0<l.length
 · exact insSort_Ent h hbase hl (by omega) g hen cmp hc hcmp
 · obtain rfl:l=[]:=List.eq_nil_of_length_eq_zero (by omega)
   obtain ⟨a,c,rfl,_⟩:=h.sl;refine (insSort_Ent0 a c w g).mono ?_;rintro e _ ⟨rfl,rfl⟩;exact ⟨⟨rfl,[],List.Perm.refl _,List.Pairwise.nil,h,Kl.refl _ _⟩,Below.refl _ _⟩
theorem stable_Ent {S:Blk} {w:World} {base:Nat} {v:Value} {l:List Ent} (h:Own REnt 60 S w base v l) (hbase:base≤w.heap.size) (hn:l.length≤12) (g:FuncId) (hen:Ent1 g) (cmp:Ent→Ent→Int) (hc:PreC cmp)
 (hcmp:∀ (S' T':Blk) (W:World) (x y:Ent) (cs ds:List Value),REnt.rd S' W cs x→REnt.rd T' W ds y→Calls Tryz.prog g #[.agg cs.toArray,.agg ds.toArray] W fun e w'=>e= .returned (.int .i64 (cmp x y))∧Below W.heap.size W w') :
 Calls Tryz.prog 124 #[v,.int .i64 l.length,.func (.func g) #[] #[]] w fun e w'=>(e= .returned (.tuple #[])∧SrtedE S base cmp l v w w')∧Below base w w':=by
 have HI:=hJ (insSort_EntA h hbase hn g hen cmp hc hcmp);obtain ⟨a,m,c,rfl⟩:=h.shape;clear h hcmp hc;generalize SrtedE S base cmp l (.slice a m c) w=Q at *;generalize l.length=n at *;have h12:(n:Int)≤12:=by omega
 have h20:¬((20:Int)≤(n:Int)):=by omega
 have h21:¬((20:Int)<(n:Int)):=by omega
 go_enter func124,ntmps124
 go_wp2_with fail
 go_loopw [7,8] (fun a b wr=>a= .int .i64 0∧b= .int .i64 20∧w=wr) (fun _ _ _=>0)
 case atStart=>exact ⟨rfl,rfl,rfl⟩
 case round =>
  obtain ⟨rfl,rfl,rfl⟩:=hrel
  go_wp2_with fail
  refine HI.out.mono ?_;rintro e w1 ⟨⟨rfl,hs⟩,hb⟩;have HS:=hJ hs;clear hs
  go_wp2_with fail
  go_loopw [6] (fun a wr=>a= .int .i64 20∧w1=wr) (fun _ _=>0)
  case atStart=>exact ⟨rfl,rfl⟩
  case round =>
   obtain ⟨rfl,rfl⟩:=hrel
   go_wp2_with fail
   go_end0;exact ⟨⟨rfl,HS.out⟩,hb⟩
theorem sortStable_Ent {S:Blk} {w:World} {base:Nat} {v:Value} {l:List Ent} (h:Own REnt 60 S w base v l) (hbase:base≤w.heap.size) (hn:l.length≤12) (g:FuncId) (hen:Ent1 g) (cmp:Ent→Ent→Int) (hc:PreC cmp)
 (hcmp:∀ (S' T':Blk) (W:World) (x y:Ent) (cs ds:List Value),REnt.rd S' W cs x→REnt.rd T' W ds y→Calls Tryz.prog g #[.agg cs.toArray,.agg ds.toArray] W fun e w'=>e= .returned (.int .i64 (cmp x y))∧Below W.heap.size W w') :
 Calls Tryz.prog 63 #[v,.func (.func g) #[] #[]] w fun e w'=>(e= .returned (.tuple #[])∧SrtedE S base cmp l v w w')∧Below base w w':=by
 have HI:=hJ (stable_Ent h hbase hn g hen cmp hc hcmp);obtain ⟨a,c,rfl,_⟩:=h.sl;clear h hcmp hc;generalize SrtedE S base cmp l (.slice a l.length c) w=Q at *;generalize l.length=n at *;go_enter func63,ntmps63
 go_wp2_with fail
 refine HI.out.mono ?_;rintro e w1 ⟨⟨rfl,hs⟩,hb⟩;have HS:=hJ hs;clear hs
 go_wp2_with fail
 go_end0;exact ⟨⟨rfl,HS.out⟩,hb⟩
open Go.RowKit Go.Shelf
attribute [local go_sem] Oper.semAt_some
structure E6 where
 x:Ent
 p:Option Addr
 pc:Nat
 t:Option Addr
 tc:Nat
 q:Option Addr
 qc:Nat
instance:Inhabited E6:=⟨⟨default,none,0,none,0,none,0⟩⟩
def E6.cs (e:E6):List Value:=[.string e.x.name,.slice e.p e.x.scheme.params.length e.pc,.string e.x.scheme.result.elem,.string e.x.scheme.result.shape.row,.slice e.t e.x.scheme.result.shape.dims.length e.tc,.slice e.q e.x.scheme.wh.length e.qc]
theorem E6.of {S:Blk} {w:World} {cs:List Value} {x:Ent} (h:REnt.rd S w cs x):∃ e:E6,e.x=x∧cs=e.cs:=by
 obtain ⟨_,rfl,_,_,_,rfl,⟨p,pc,rfl,_⟩,⟨t,tc,rfl,_⟩,⟨q,qc,rfl,_⟩⟩:=h;exact ⟨⟨x,p,pc,t,tc,q,qc⟩,rfl,rfl⟩
theorem values_in (F:Fence) (n:Nat) (h5:F.fn 32) (hro:F.round=none) (a:Option Addr) (len cap:Nat) (w:World) :
 CallsIn F n Tryz.prog 32 #[.slice a len cap] w fun e w'=>e= .returned (.func (.func 64) #[] #[.pointer (some ⟨w.heap.size,0,none⟩)])∧w'=w.alloc (.cells #[.slice a len cap] 27):=by
 refine callsIn_of_wp func32 rfl h5 ?_ hro;simp only [ntmps32,List.size_toArray,List.length_cons,List.length_nil,Nat.reduceAdd,Nat.reduceSub,Array.replicate_succ,Array.replicate_zero,List.push_toArray,List.append_toArray,List.nil_append,List.cons_append]
 gi_wp2
 go_ret;exact ⟨rfl,rfl⟩
theorem upto_len {α :Type} (f:Nat→ α) (k:Nat):((List.range k).map f).length=k:=by simp
theorem upto_one {α :Type} (f:Nat→ α) (k:Nat):(List.range (k+1)).map f=(List.range k).map f++[f k]:=by simp [List.range_succ]
theorem values1_in (F:Fence) (n:Nat) (h7:F.fn 64) (hro:F.round=none) (hn:1≤n) (l Bs n₀ b off len cap:Nat) (zs:List E6) (hlen:zs.length=len) (hl:len≤100) (hb:b<n₀) (J Jx:List E6→World→Prop) (A:Nat) (hA:AbidesFrom A J)
 (hY:∀ pre x W,J pre W→pre.length<len→YieldAt F (n - 1) Tryz.prog l #[.agg x.cs.toArray] W fun e W' =>
   (e= .returned (.bool true)∧J (pre++[x]) W'∧Below n₀ W W')∨(e= .returned (.bool false)∧Jx (pre++[x]) W'))
 (W:World) (hn₀ :n₀ ≤W.heap.size) (hBs:W.cell? ⟨Bs,0,none⟩=some (.slice (some ⟨b,off,none⟩) len cap)) (hc:∀ j x,zs[j]? =some x→∀ i u,x.cs[i]? =some u→W.cell? ⟨b,off+(j * 6+i),none⟩=some u) (h0:J [] W) :
 CallsIn F n Tryz.prog 64 #[.func (.yield l) #[] #[],.pointer (some ⟨Bs,0,none⟩)] W fun e W'=>(∃ v,e= .returned v) ∧
  ((∃ ys,ys=(List.range len).map (fun j=>zs.getD j default)∧J ys W')∨(∃ pre,(∃ k,k≤len∧pre=(List.range k).map (fun j=>zs.getD j default))∧Jx pre W')):=by
 have HC:=hJ hc;have HLen:=hJ hlen;have HY:=hJ hY;have HA:=hJ hA;clear hc hlen hY hA;refine callsIn_of_wp func64 rfl h7 ?_ hro;simp only [ntmps64,List.size_toArray,List.length_cons,List.length_nil,Nat.reduceAdd,Nat.reduceSub,Array.replicate_succ,Array.replicate_zero,List.push_toArray,List.append_toArray,List.nil_append,List.cons_append]
 gi_wp2
 gi_loopw [7] (fun i wr=>∃ k:Nat,k≤len∧i= .int .i64 k∧J ((List.range k).map (fun j=>zs.getD j default)) wr∧Below n₀ W wr)
  (fun i _=>len - (intOf i).toNat)
 case atStart=>exact ⟨0,Nat.zero_le _,rfl,h0,Below.refl _ _⟩
 case round =>
  obtain ⟨k,hk,rfl,hJs,hnx⟩:=hrel;have hsz:=hnx.size;by_cases hlt:k<len
  · obtain ⟨x,hx⟩:∃ x,zs.getD k default=x:=⟨_,rfl⟩
    have hgx:zs[k]? =some x:=by rw [← hx];exact kEN (by rw [HLen.out];exact hlt)
    have hcx:=fun i u hu=>(hnx.cell (p:=⟨b,off+(k * 6+i),none⟩) hb).trans (HC.out k x hgx i u hu)
    have c0:wr.cell? ⟨b,off+k * 6,none⟩=some (.string x.x.name):=hcx 0 _ rfl;have c1:wr.cell? ⟨b,off+k * 6+1,none⟩=some (.slice x.p x.x.scheme.params.length x.pc):=hcx 1 _ rfl;have c2:wr.cell? ⟨b,off+k * 6+2,none⟩=some (.string x.x.scheme.result.elem):=hcx 2 _ rfl;have c3:wr.cell? ⟨b,off+k * 6+3,none⟩=some (.string x.x.scheme.result.shape.row):=hcx 3 _ rfl;have c4:wr.cell? ⟨b,off+k * 6+4,none⟩=some (.slice x.t x.x.scheme.result.shape.dims.length x.tc):=hcx 4 _ rfl;have c5:wr.cell? ⟨b,off+k * 6+5,none⟩=some (.slice x.q x.x.scheme.wh.length x.qc):=hcx 5 _ rfl;have HX:=hJ hx;have hJb:J _ (wr.alloc (.cells x.cs.toArray 60)):=HA.out _ _ _ none hJs (World.grownBy_alloc wr _ none) (fun r e=>by cases e);obtain ⟨fn,tmps,assign,body,hy,hR⟩:=HY.out _ x _ hJb (by rw [upto_len];exact hlt);have hBa:Below n₀ wr (wr.alloc (.cells x.cs.toArray 60)):=(Below.refl _ _).alloc (Nat.le_trans hn₀ hsz) _;have HBa:=hJ hBa;clear hcx hgx hx hJb hBa;simp only [E6.cs] at hy hR HBa
    gi_wp2
    refine hR.mono ?_;rintro e W3 (⟨rfl,hJ3,hk3⟩ | ⟨rfl,hJx3⟩)
    · gi_wp2
      go_roundw
      case rel=>exact ⟨k+1,by omega,by simp,by rw [upto_one,HX.out];exact hJ3,hnx.trans (HBa.out.trans hk3)⟩
      case measure=>simp [intOf];omega
    · gi_wp2
      refine bodyPost_ret (results_none rfl _ _ _) rfl ?_;exact ⟨⟨_,rfl⟩,.inr ⟨_,⟨k+1,by omega,by rw [upto_one,HX.out]⟩,hJx3⟩⟩
  · obtain rfl:k=len:=by omega
    gi_wp2
    go_end0;exact ⟨⟨_,rfl⟩,.inl ⟨_,rfl,hJs⟩⟩
theorem upto_take6 (zs:List E6) {k:Nat} (hk:k≤zs.length):(List.range k).map (fun j=>zs.getD j default)=zs.take k:=by
 apply List.ext_getElem
 · simp [hk]
 · intro i h1 h2
   have:i<zs.length:=by simp at h1;omega
   simp [this]
def Hold6 (n₀ :Nat) (W:World) (sv:Value) (zs:List E6):Prop :=
 (sv= .slice none 0 0∧zs=[])∨∃ b off cap,sv= .slice (some ⟨b,off,none⟩) zs.length cap∧b<n₀ ∧∀ j x,zs[j]? =some x→∀ i u,x.cs[i]? =some u→W.cell? ⟨b,off+(j * 6+i),none⟩=some u
theorem Hold6.below {n₀ :Nat} {A B:World} (h:Below n₀ A B) {sv:Value} {zs:List E6}:Hold6 n₀ A sv zs→Hold6 n₀ B sv zs
 | .inl e=>.inl e
 | .inr ⟨b,off,cap,e,hb,hc⟩=>.inr ⟨b,off,cap,e,hb,fun j x hx i u hu=>(h.cell (p:=⟨b,off+(j * 6+i),none⟩) hb).trans (hc j x hx i u hu)⟩
theorem values1_nil_in (F:Fence) (n:Nat) (h7:F.fn 64) (hro:F.round=none) (l Bs:Nat) (J:List E6→World→Prop) (W:World) (hBs:W.cell? ⟨Bs,0,none⟩=some (.slice none 0 0)) (h0:J [] W) :
 CallsIn F n Tryz.prog 64 #[.func (.yield l) #[] #[],.pointer (some ⟨Bs,0,none⟩)] W fun e W'=>(∃ v,e= .returned v)∧J [] W':=by
 refine callsIn_of_wp func64 rfl h7 ?_ hro;simp only [ntmps64,List.size_toArray,List.length_cons,List.length_nil,Nat.reduceAdd,Nat.reduceSub,Array.replicate_succ,Array.replicate_zero,List.push_toArray,List.append_toArray,List.nil_append,List.cons_append]
 gi_wp2
 gi_loopw [7] (fun i wr=>i= .int .i64 0∧J [] wr) (fun _ _=>0)
 case atStart=>exact ⟨rfl,h0⟩
 case round =>
  obtain ⟨rfl,hJs⟩:=hrel
  gi_wp2
  go_end0;exact ⟨⟨_,rfl⟩,hJs⟩
theorem values_stops (F:Fence) (n:Nat) (h7:F.fn 64) (hro:F.round=none) (hn:1≤n) (Bs n₀ :Nat) (sv:Value) (zs:List E6) (hl:zs.length≤100) (w:World) (hBs:Bs<w.heap.size) (hn₀ :n₀ ≤w.heap.size)
 (hc:w.cell? ⟨Bs,0,none⟩=some sv) (hI:Hold6 n₀ w sv zs) :
 SeqStopsK F n Tryz.prog 64 #[.pointer (some ⟨Bs,0,none⟩)] (fun x:E6=>#[Value.agg x.cs.toArray]) (Below n₀) (fun ys=>ys=zs) (fun pre=>pre <+: zs) zs.length w:=fun l J Jx W hW hA _ hY h0=>by
 have hc':=(hW.cell (p:=⟨Bs,0,none⟩) hBs).trans hc;rcases hI.below (hW.mono hn₀) with ⟨rfl,rfl⟩ | ⟨b,off,cap,rfl,hb,hcs⟩
 · exact (values1_nil_in F n h7 hro l Bs J W hc' h0).mono fun e W' ⟨he,hj⟩=>⟨he,.inl ⟨_,rfl,hj⟩⟩
 · refine (values1_in F n h7 hro hn l Bs n₀ b off zs.length cap zs rfl hl hb J Jx W.heap.size hA hY W (Nat.le_trans hn₀ hW.size) hc' hcs h0).mono ?_
   rintro e W' ⟨he,⟨ys,rfl,hj⟩ | ⟨pre,⟨k,hk,rfl⟩,hj⟩⟩
   · exact ⟨he,.inl ⟨_,by rw [upto_take6 zs (Nat.le_refl _),List.take_length],hj⟩⟩
   · exact ⟨he,.inr ⟨_,by rw [upto_take6 zs hk];exact List.take_prefix _ _,hj⟩⟩
open Go.RowKit Go.Shelf
attribute [local go_sem] Oper.semAt_some
theorem elemEnt:ElemOf Tryz.prog 27 60 REnt.size 120:=⟨by kernel_rfl,by kernel_rfl⟩
theorem appendSeq_in (F:Fence) (n:Nat) (h95:F.fn 123) (hro:F.round=none) (hn:2≤n) (g:Nat) (lb:Array Value) (hFg:F.fn g) (eg:∀ args w,(callFunc g args).run Tryz.prog w= .ok (.enter g args) w)
 (S Sp:List E6→Prop) (N:Nat) (hN:N≤100) (w:World) (hseq:SeqStopsK F (n - 1) Tryz.prog g lb (fun x:E6=>#[Value.agg x.cs.toArray]) (Below w.heap.size) S Sp N w) :
 CallsIn F n Tryz.prog 123 #[.slice none 0 0,.func (.func g) #[] lb] w fun e w'=>∃ (v:Value) (zs:List E6),e= .returned v∧S zs∧w'.ownsRow w.heap.size 60 6 v zs.length (zs.flatMap E6.cs)∧(v= .slice none 0 0 ↔ zs=[])∧Below w.heap.size w w':=by
 have h1:1≤n:=by omega
 refine callsIn_of_wp_marks func123 rfl h95 ?_ hro;simp only [ntmps123,List.size_toArray,List.length_cons,List.length_nil,Nat.reduceAdd,Nat.reduceSub,Array.replicate_succ,Array.replicate_zero,List.push_toArray,List.append_toArray,List.nil_append,List.cons_append]
 gi_wp2
 have bS:=Boxed.new w 27 (.slice none 0 0);have hB0:Below w.heap.size w (w.alloc (.cells #[.slice none 0 0] 27)):=(Below.refl _ w).alloc (Nat.le_refl _) _;have hsz:(w.alloc (.cells #[.slice none 0 0] 27)).heap.size=w.heap.size+1:=by simp
 obtain ⟨W0,hW0⟩:∃ W0,w.alloc (.cells #[.slice none 0 0] 27)=W0:=⟨_,rfl⟩
 rw [hW0] at bS hB0 hsz ⊢;clear hW0
 refine wpIn_rangeFunc_ownH hro h1 (gf:=g) (lb:=lb) rfl hFg eg hseq belowK_t (belowK_b (by omega)) hB0 (fun _=>rfl)
  (fun pre W=>(∃ v,Boxed W w.heap.size 27 v∧W.ownsRow w.heap.size 60 6 v pre.length (pre.flatMap E6.cs)∧(v= .slice none 0 0 ↔ pre=[]))∧Below w.heap.size w W)
  (fun _ _ _=>False)
  (OwnFrom.and (Own.from (holdsRow_own w.heap.size w.heap.size 27 60 6 (fun pre=>pre.length) (fun pre=>pre.flatMap E6.cs) (fun pre v=>v= .slice none 0 0 ↔ pre=[])) _) (ownFrom_below (Nat.le_refl _) (by omega)))
  (fun _ _ _ _ _ hs _ _=>hs)
  ⟨⟨_,bS,World.ownsRow_nil _ _ _ _,by simp⟩,hB0⟩
  (fun x a' W=>∃ Bk,w.heap.size<Bk∧W.heap[Bk]? =some (.cells x.cs.toArray 60 (0,0))∧a'= { tmps:=#[.slice none 0 0,.func (.func g) #[] lb,.pointer (some ⟨w.heap.size,0,none⟩),undef,.slice none 0 0,.pointer (some ⟨Bk,0,none⟩),.func (.func g) #[] lb,.agg x.cs.toArray,undef,undef,undef,undef,undef],defers:=[] })
  ?hAx ?assign ?body ?done ?stop
 case hAx =>
  rintro x a' _ X Y row ⟨Bk,h1,h2,h3⟩ hg hr;refine ⟨Bk,h1,(hg.5 Bk (Array.getElem?_eq_some_iff.1 h2).1 (fun e'=>?_)).trans h2,h3⟩;obtain ⟨_,o,ho,hc⟩:=hr Bk (by first | exact e'.symm | exact e');rw [h2] at ho;cases ho;cases hc
 case assign =>
  rintro l pre x W K ⟨⟨v,hv,hrow,hnil⟩,hB⟩ hK;simp only [E6.cs] at hK ⊢
  gi_wp2
  exact hK _ _ ((KeepsOthers.alloc _ _).from _) ((Below.refl _ W).alloc hB.size _) ⟨⟨v,hv.alloc _,hrow.alloc _,hnil⟩,hB.alloc hB.size _⟩ ⟨W.heap.size,hv.lt,World.alloc_heap_new W _,rfl⟩
 case body =>
  rintro l pre x a' W hl ⟨r,hr⟩ ⟨⟨v,hv,hrow,hnil⟩,hB⟩ ⟨Bk,hBk,hbk,rfl⟩ hlt;obtain ⟨i0,z0,hi,hz,hs,hb,hzs⟩:=elemEnt.parts;have hc:=hv.cell;have c0:=kA6 60 hbk 0 _ rfl;have c1:=kA6 60 hbk 1 _ rfl;have c2:=kA6 60 hbk 2 _ rfl;have c3:=kA6 60 hbk 3 _ rfl;have c4:=kA6 60 hbk 4 _ rfl;have c5:=kA6 60 hbk 5 _ rfl
  have hone:∀ u ∈ x.cs,u.oneCell'=true:=by
   intro u hu;simp [E6.cs] at hu;rcases hu with rfl | rfl | rfl | rfl | rfl | rfl <;> rfl
  have hnew:∀ j u,x.cs[j]? =some u→(W.alloc (.cells x.cs.toArray 60)).cell? ((⟨W.heap.size,0,none⟩:Addr).add j)=some u:=fun j u hu=>by
   rw [add_mk,Nat.zero_add];exact kA6 60 (World.alloc_heap_new W _) j u hu
  gi_wp2_with (gi_at_builtin;refine wpListIn_append_own _ rfl _ _ 27 rfl w.heap.size 60 i0 z0 6 120 underlying27 hi hz hs hb hzs (by decide) _ _ _ rfl (hrow.alloc _) ⟨W.heap.size,0,none⟩ 1 1 x.cs rfl rfl hnew hone (by unfold maxLen;omega) (by omega) (by have:=hB.size;simp;omega) ?_;intro v' w1 hown' hgrow _;obtain ⟨g',cap',rfl⟩:=ownsRow_succ hown';obtain ⟨hv1,hv2,hr2,hk2,hb2⟩:=hv.appended (by decide) hrow hB.size (Nat.le_refl _) hown' hgrow;have hc1:=hv1.cell;have hf1:=hv1.frozen)
  exact ⟨hk2.from _,hb2,⟨_,hv2,by simpa using hr2,by simp⟩,hB.trans hb2⟩
 case done =>
  rintro D ys W hD hS ⟨⟨v,hv,hrow,hnil⟩,hB⟩ hK;have hc:=hv.cell
  gi_wp2
  refine ⟨by simp,.inl ⟨_,_,rfl,run_takeDeferred hK,?_⟩⟩;exact ⟨_,results_tmp rfl _ _ _,v,ys,rfl,hS,ownsRow_putObj hrow _ hK rfl,hnil,hB.trans (belowK_b (w:=w) (Nat.le_refl _) W D _ _ (by omega) hK rfl rfl)⟩
 case stop =>
  rintro D c pre W hD hS h;exact h.elim
theorem collect_in (F:Fence) (n:Nat) (h48:F.fn 62) (h95:F.fn 123) (hro:F.round=none) (hn:3≤n) (g:Nat) (lb:Array Value) (hFg:F.fn g) (eg:∀ args w,(callFunc g args).run Tryz.prog w= .ok (.enter g args) w)
 (S Sp:List E6→Prop) (N:Nat) (hN:N≤100) (w:World) (hseq:SeqStopsK F (n - 1 - 1) Tryz.prog g lb (fun x:E6=>#[Value.agg x.cs.toArray]) (Below w.heap.size) S Sp N w) :
 CallsIn F n Tryz.prog 62 #[.func (.func g) #[] lb] w fun e w'=>∃ (v:Value) (zs:List E6),e= .returned v∧S zs∧w'.ownsRow w.heap.size 60 6 v zs.length (zs.flatMap E6.cs)∧(v= .slice none 0 0 ↔ zs=[])∧Below w.heap.size w w':=by
 have h1:1≤n:=by omega
 refine callsIn_of_wp func62 rfl h48 ?_ hro;simp only [ntmps62,List.size_toArray,List.length_cons,List.length_nil,Nat.reduceAdd,Nat.reduceSub,Array.replicate_succ,Array.replicate_zero,List.push_toArray,List.append_toArray,List.nil_append,List.cons_append]
 gi_wp2_with (gi_at_call 123;refine (appendSeq_in F (n - 1) h95 hro (by omega) g lb hFg eg S Sp N hN _ hseq).mono ?_;rintro e w' ⟨v,zs,rfl,hS,hrow,hnil,hb⟩;have HN':=hJ hnil;have HS':=hJ hS;clear hnil hS)
 go_ret;exact ⟨v,zs,rfl,HS'.out,hrow,HN'.out,hb⟩
theorem collect_Values (w:World) (sv:Value) (zs:List E6) (hl:zs.length≤100) (Bs:Nat) (hBs:Bs<w.heap.size) (hc:w.cell? ⟨Bs,0,none⟩=some sv) (hI:Hold6 w.heap.size w sv zs) :
 Calls Tryz.prog 62 #[.func (.func 64) #[] #[.pointer (some ⟨Bs,0,none⟩)]] w fun e w'=>∃ v:Value,e= .returned v∧w'.ownsRow w.heap.size 60 6 v zs.length (zs.flatMap E6.cs)∧(v= .slice none 0 0 ↔ zs=[])∧Below w.heap.size w w' :=
 (callsIn_wide.1 (collect_in Fence.wide 5 trivial trivial rfl (by decide) _ _ trivial (enters_of func64 (by kernel_rfl) rfl) _ _ _ hl w (values_stops Fence.wide 3 trivial rfl (by decide) Bs w.heap.size sv zs hl w hBs (Nat.le_refl _) hc hI))).mono fun e w' ⟨v,ys,he,hS,hrow,hnil,hb⟩=>by
   subst hS;exact ⟨v,he,hrow,hnil,hb⟩
theorem values_Ent (a:Option Addr) (len cap:Nat) (w:World):Calls Tryz.prog 32 #[.slice a len cap] w fun e w'=>e= .returned (.func (.func 64) #[] #[.pointer (some ⟨w.heap.size,0,none⟩)])∧w'=w.alloc (.cells #[.slice a len cap] 27) :=
 callsIn_wide.1 (values_in Fence.wide 1 trivial rfl a len cap w)
theorem E6.size (e:E6):e.cs.length=6:=rfl
theorem pick6:∀ (l:List Ent) (P:Nat→E6→Prop),(∀ i x,l[i]? =some x→∃ e:E6,e.x=x∧P i e)→∃ zs:List E6,zs.map E6.x=l∧∀ i e,zs[i]? =some e→P i e
 | [],P,_=>⟨[],rfl,fun i e h=>by simp at h⟩
 | x :: l,P,h=>by
   obtain ⟨e0,he0,hp0⟩:=h 0 x rfl;obtain ⟨zs,hz,hp⟩:=pick6 l (fun i e=>P (i+1) e) (fun i y hy=>h (i+1) y (by simpa using hy));refine ⟨e0 :: zs,by rw [List.map_cons,he0,hz],fun i e hi=>?_⟩;cases i with
   | zero=>simp at hi;subst hi;exact hp0
   | succ i=>exact hp i e (by simpa using hi)
def Fit (w:World) (a:Option Addr):Prop:=∀ ad,a=some ad→∃ b off,ad=⟨b,off,none⟩∧b<w.heap.size
theorem Fit.below {w w':World} {a:Option Addr} (h:Fit w a) (hs:w.heap.size≤w'.heap.size):Fit w' a:=fun ad e=>by
 obtain ⟨b,off,e',hb⟩:=h ad e;exact ⟨b,off,e',by omega⟩
theorem Sl.e6 {S:Blk} {w:World} {a:Option Addr} {n c:Nat} {l:List Ent} (h:Sl REnt S w a n c l) (hf:Fit w a):∃ zs:List E6,zs.map E6.x=l∧Hold6 w.heap.size w (.slice a n c) zs∧∀ z ∈ zs,REnt.rd S w z.cs z.x:=by
 obtain ⟨zs,hz,hp⟩:=pick6 l (fun i e=>REnt.rd S w e.cs e.x∧∃ b off,a=some ⟨b,off,none⟩∧∀ j u,e.cs[j]? =some u→w.cell? ⟨b,off+(i * 6+j),none⟩=some u) (fun i x hx=>by
  obtain ⟨b,off,cs,ha,_,hr,hc⟩:=h.at_ i x hx;obtain ⟨e,he,rfl⟩:=E6.of hr;exact ⟨e,he,by rw [he];exact hr,b,off,ha,hc⟩)
 have hl:zs.length=n:=by rw [← h.len,← hz,List.length_map]
 refine ⟨zs,hz,?_,fun z hz'=>?_⟩
 · cases a with
   | none =>
     have h0:=h.nil rfl;have h1:=h.cap;subst h0;obtain rfl:n=0:=by omega
     exact .inl ⟨rfl,List.eq_nil_of_length_eq_zero hl⟩
   | some ad =>
     obtain ⟨b,off,rfl,hb⟩:=hf ad rfl;refine .inr ⟨b,off,c,by rw [hl],hb,fun j x hx i u hu=>?_⟩;obtain ⟨_,b',off',e',hc⟩:=hp j x hx;cases e';exact hc i u hu
 · obtain ⟨i,hi,rfl⟩:=List.getElem_of_mem hz'
   exact (hp i _ (List.getElem?_eq_getElem hi)).1
theorem Hold6.lift {n₀ n₁ :Nat} {A:World} (h:n₀ ≤n₁) {sv:Value} {zs:List E6}:Hold6 n₀ A sv zs→Hold6 n₁ A sv zs
 | .inl e=>.inl e
 | .inr ⟨b,off,cap,e,hb,hc⟩=>.inr ⟨b,off,cap,e,by omega,hc⟩
theorem own_e6 {S:Blk} {w:World} {base:Nat} {v:Value} {zs:List E6} (hrow:w.ownsRow base 60 6 v zs.length (zs.flatMap E6.cs)) (hr:∀ z ∈ zs,REnt.rd (fun k=>S k∧v.ownBlock≠some k) w z.cs z.x):Own REnt 60 S w base v (zs.map E6.x):=by
 refine ⟨zs.map E6.cs,by simp,?_,fun i x hx=>?_⟩
 · rw [List.length_map,← List.flatMap_def]
   exact hrow
 · rw [List.getElem?_map] at hx
   cases hz:zs[i]? with
   | none=>rw [hz] at hx;cases hx
   | some z =>
     rw [hz] at hx;simp only [Option.map_some,Option.some.injEq] at hx;subst hx;exact ⟨z.cs,by rw [List.getElem?_map,hz];rfl,hr z (List.mem_of_getElem? hz)⟩
theorem own_row6 {S:Blk} {w w':World} {base:Nat} {v:Value} {zs:List E6} (hrow:w'.ownsRow base 60 6 v zs.length (zs.flatMap E6.cs)) (hr:∀ z ∈ zs,REnt.rd S w z.cs z.x) (hb:Below w.heap.size w w') (hbase:w.heap.size≤base):Own REnt 60 (fun k=>S k∧k<w.heap.size) w' base v (zs.map E6.x):=by
 refine own_e6 hrow (fun z hz=>?_);refine REnt.below (REnt.mono (hr z hz) (fun k hs hk=>⟨⟨hs,hk⟩,fun e=>?_⟩)) hb;obtain ⟨a,c,rfl,_,_,_,hg⟩:=kDN hrow;cases a with
 | none=>simp [Value.ownBlock] at e
 | some ad =>
   obtain ⟨g,rfl,hg1,_⟩:=hg ad rfl;simp [Value.ownBlock] at e;omega
def cmpE (a b:Ent):Int:=cmpS a.name b.name
theorem cmpS_anti (a b:Str):cmpS b a= -cmpS a b:=by
 unfold cmpS;cases h:slt a b with
 | true=>rw [kF0 h];rfl
 | false=>cases slt b a <;> rfl
theorem cmpS_le (a b:Str):cmpS a b≤0 ↔ slt b a=false:=by
 unfold cmpS;cases h:slt a b with
 | true=>rw [kF0 h];decide
 | false=>cases slt b a <;> decide
theorem preE:PreC cmpE:=⟨fun a b=>cmpS_anti a.name b.name,fun a b c h1 h2=>by
 unfold cmpE at *;rw [cmpS_le] at *;rw [Bool.eq_false_iff];intro h3;cases hab:slt a.name b.name with
 | true =>
   have h4:=kEF h3 hab;rw [h2] at h4;cases h4
 | false =>
   have:=kE4 hab h1;rw [this,h2] at h3;cases h3⟩
theorem sortedStable_Ent {S:Blk} {w:World} (sv:Value) (zs:List E6) (hl:zs.length≤12) (Bs:Nat) (hBs:Bs<w.heap.size) (hc:w.cell? ⟨Bs,0,none⟩=some sv) (hI:Hold6 w.heap.size w sv zs) (hr:∀ z ∈ zs,REnt.rd S w z.cs z.x) :
 Calls Tryz.prog 31 #[.func (.func 64) #[] #[.pointer (some ⟨Bs,0,none⟩)],.func (.func 33) #[] #[]] w fun e w' =>
  (∃ v,e= .returned v∧∃ m:List Ent,m.Perm (zs.map E6.x)∧Le cmpE m∧Own REnt 60 (fun k=>S k∧k<w.heap.size) w' w.heap.size v m)∧Below w.heap.size w w':=by
 have HC:=hJ (collect_Values w sv zs (by omega) Bs hBs hc hI);have HR:=hJ hr;have hlm:(zs.map E6.x).length≤12:=by rw [List.length_map];exact hl
 clear hc hI hr;go_enter func31,ntmps31
 go_wp2_with fail
 refine HC.out.mono ?_;rintro e w1 ⟨v,rfl,hrow,_,hb⟩;have hown:=own_row6 hrow HR.out hb (Nat.le_refl _);have HS:=hJ (sortStable_Ent hown hb.size hlm 33 (kBG func33 rfl rfl) cmpE preE (fun S' T' W x y cs ds h1 h2=>signature_byName h1 h2));obtain ⟨a,n,c,rfl⟩:=hown.shape;clear hown hrow
 go_wp2_with fail
 refine HS.out.mono ?_;rintro e w2 ⟨⟨rfl,m,hp,hle,ho,hk⟩,hb2⟩;have HP:=hJ hp;have HL:=hJ hle;have HO:=hJ ho;clear hp hle ho hk HS
 go_wp2_with fail
 go_ret;exact ⟨⟨_,rfl,m,HP.out,HL.out,HO.out⟩,hb.trans hb2⟩
def prun (s:Str) (c:Int) (l:List Coef) (k:Nat):Bool × List Coef:=(l.take k).foldl (kBE s c) (false,[])
theorem prun_next {s:Str} {c:Int} {l:List Coef} {k:Nat} (h:k<l.length):prun s c l (k+1)=kBE s c (prun s c l k) (l.getD k default):=by
 unfold prun;rw [kBB h,List.foldl_append];rfl
theorem pstep_len (s:Str) (c:Int) (p:Bool × List Coef) (t:Coef):(kBE s c p t).2.length≤p.2.length+2:=by
 unfold kBE
 split <;> split <;> simp
theorem prun_len (s:Str) (c:Int) (l:List Coef):∀ k,k≤l.length→(prun s c l k).2.length≤k * 2
 | 0,_=>by simp [prun]
 | k+1,h=>by
   have h1:=prun_len s c l k (by omega);have h2:=pstep_len s c (prun s c l k) (l.getD k default);rw [prun_next (by omega)];omega
theorem pstep_old {s:Str} {c:Int} {acc:List Coef} {t:Coef} (put:Bool) (h1:(!put && slt s t.v)=false) (h2:seq t.v s=false):kBE s c (put,acc) t=(put,acc++[t]):=by
 unfold kBE;simp only [h1,h2];cases put <;> simp_all
theorem pstep_eq {s:Str} {c:Int} {acc:List Coef} {t:Coef} (put:Bool) (h1:(!put && slt s t.v)=false) (h2:seq t.v s=true):kBE s c (put,acc) t=(true,acc++[⟨t.v,t.c+c⟩]):=by
 unfold kBE;simp only [h1,h2];simp
theorem pstep_new {s:Str} {c:Int} {acc:List Coef} {t:Coef} (h1:slt s t.v=true):kBE s c (false,acc) t=(true,acc++[⟨s,c⟩]++[t]):=by
 unfold kBE;rw [slt_ne' h1,h1];simp
def nzs (F:List Coef) (i:Nat):List Coef:=(F.take i).filter nzB
theorem nzs_len (F:List Coef) (i:Nat):(nzs F i).length≤i:=by
 unfold nzs;have h1:=List.length_filter_le nzB (F.take i);have h2:=List.length_take_le i F;omega
theorem nzs_next {F:List Coef} {i:Nat} (h:i<F.length):nzs F (i+1)=if (F.getD i default).c=0 then nzs F i else nzs F i++[F.getD i default]:=by
 unfold nzs;rw [kBB h,List.filter_append];by_cases q:(F.getD i default).c=0
 · rw [if_pos q,List.filter_cons_of_neg (by unfold nzB;rw [q];decide)];simp
 · rw [if_neg q,List.filter_cons_of_pos (show nzB (F.getD i default)=true from bne_iff_ne.2 q)];simp
theorem Sl.setCoef {S:Blk} {w:World} {g n c:Nat} {M:List Coef} (h:Sl kCB S w (some ⟨g,0,none⟩) n c M) (k:Nat) (hk:k<n) (y:Coef) :
 Sl kCB S ((w.setCell ⟨g,k * 2,none⟩ (.string y.v)).setCell ⟨g,k * 2+1,none⟩ (.int .i64 y.c)) (some ⟨g,0,none⟩) n c (M.set k y):=by
 refine ⟨by rw [List.length_set];exact h.len,h.cap,h.max,h.nil,fun i x hx=>?_⟩
 have hi:i<M.length:=by
  rcases Nat.lt_or_ge i M.length with q | q
  · exact q
  · rw [List.getElem?_eq_none (by rw [List.length_set];exact q)] at hx;cases hx
 obtain ⟨b0,off0,cs0,e0,hs0,hr0,hc0⟩:=h.at_ i _ (List.getElem?_eq_getElem hi);cases e0;obtain rfl:cs0=_:=hr0;obtain ⟨c0,c1⟩:=h.coef k hk;rw [Nat.zero_add] at c0 c1;by_cases hik:i=k
 · subst hik
   rw [List.getElem?_set_self hi] at hx;cases hx;refine ⟨g,0,[.string y.v,.int .i64 y.c],rfl,hs0,rfl,fun j u hu=>?_⟩
   match j,hu with
   | 0,hu =>
     simp at hu;subst hu;rw [Nat.zero_add]
     show ((w.setCell _ _).setCell ⟨g,i * 2+1,none⟩ _).cell? ⟨g,i * 2+0,none⟩=_
     rw [kF3 _ _ _ _ _ (by omega),Nat.add_zero];exact World.cell?_setCell_same' _ _ _ (by rw [c0];rfl)
   | 1,hu =>
     simp at hu;subst hu;rw [Nat.zero_add]
     show ((w.setCell _ _).setCell ⟨g,i * 2+1,none⟩ _).cell? ⟨g,i * 2+1,none⟩=_
     exact World.cell?_setCell_same' _ _ _ (by rw [kF3 _ _ _ _ _ (by omega),c1];rfl)
 · rw [List.getElem?_set_ne (fun e=>hik e.symm),List.getElem?_eq_getElem hi] at hx
   cases hx;refine ⟨g,0,[.string (M[i]).v,.int .i64 (M[i]).c],rfl,hs0,rfl,fun j u hu=>?_⟩;have:=hc0 j u hu
   have hj:j<2:=by
    rcases Nat.lt_or_ge j 2 with q | q
    · exact q
    · rw [List.getElem?_eq_none (by simpa using q)] at hu;cases hu
   rw [kF3 _ _ _ _ _ (by show k * 2+1≠0+(i * 2+j);omega),kF3 _ _ _ _ _ (by show k * 2≠0+(i * 2+j);omega)];exact this
theorem pstep_grow (s:Str) (c:Int) (p:Bool × List Coef) (t:Coef):p.2.length<(kBE s c p t).2.length:=by
 unfold kBE
 split <;> split <;> simp <;> omega
theorem prun_grow (s:Str) (c:Int):∀ (l:List Coef) (p:Bool × List Coef),p.2.length≤(l.foldl (kBE s c) p).2.length
 | [],p=>Nat.le_refl _
 | t :: l,p=>Nat.le_trans (Nat.le_of_lt (pstep_grow s c p t)) (prun_grow s c l _)
theorem plusF_pos (l:List Coef) (s:Str) (c:Int):0<(plusF l s c).length:=by
 unfold plusF plusRun;cases l with
 | nil=>simp
 | cons t l =>
   have h1:=pstep_grow s c (false,[]) t;have h2:=prun_grow s c l (kBE s c (false,[]) t);rw [List.foldl_cons]
   split
   · omega
   · rw [List.length_append];omega
theorem prun_full (s:Str) (c:Int) (l:List Coef) {k:Nat} (h:k=l.length):plusF l s c=if (prun s c l k).1 then (prun s c l k).2 else (prun s c l k).2++[⟨s,c⟩]:=by
 unfold prun plusF plusRun;rw [h,List.take_length]
theorem getD_drop {M F:List Coef} {i:Nat} (h:M.drop i=F.drop i):M.getD i default=F.getD i default:=by
 have h1:(M.drop i)[0]? =(F.drop i)[0]? :=by rw [h]
 rw [List.getElem?_drop,List.getElem?_drop,Nat.add_zero] at h1;rw [List.getD_eq_getElem?_getD,List.getD_eq_getElem?_getD,h1]
theorem kKA {M F:List Coef} {i:Nat} (h:M.drop i=F.drop i):M.drop (i+1)=F.drop (i+1):=by
 rw [← List.drop_drop,← List.drop_drop,h]
theorem take_put {M N:List Coef} {k:Nat} (hk:k<M.length) (h:M.take k=N) (y:Coef):(M.set k y).take (k+1)=N++[y]:=by
 rw [List.take_add_one,List.take_set_of_le (Nat.le_refl _),h,List.getElem?_set_self hk];rfl
theorem ref04_Plus {S:Blk} {x:Lin} {cs:List Value} {w:World} (h:RLin.rd S w cs x) (s:Str) (c:Int) (hn:x.terms.length≤1000000) (hb:∀ t ∈ x.terms,-9223372036854775808≤t.c+c∧t.c+c≤9223372036854775807) :
 Calls Tryz.prog 121 #[.agg cs.toArray,.string s,.int .i64 c] w fun e w'=>(∃ ds,e= .returned (.agg ds.toArray)∧RLin.rd (fun k=>w.heap.size≤k) w' ds ⟨x.const,plus x.terms s c⟩)∧Below w.heap.size w w':=by
 obtain ⟨t,rfl,a,cp,rfl,hs⟩:=h;have HBd:=hJ hb;have hL:x.terms.length=x.terms.length:=rfl;generalize hL2:x.terms.length=n at *;have HL:=hJ hL2;clear hL hL2 hb;obtain ⟨B0,ya,yb,yc,hW0⟩:=box3 w 49 [.int .i64 x.const,.slice a n cp] 49 [.int .i64 0,.slice none 0 0] 49 [.int .i64 x.const,.slice none 0 0];have xa0:=box0 ya 0 _ rfl;have xa1:=box0 ya 1 _ rfl;have xb0:=box0 yb 0 _ rfl;have xb1:=box0 yb 1 _ rfl;have xc0:=box0 yc 0 _ rfl;have xc1:=box0 yc 1 _ rfl;have bka:Bx _ _ _ _:=ya;have bkb:Bx _ _ _ _:=yb;have bkc:Bx _ _ _ _:=yc;clear ya yb yc;have HS:=hJ hs;have hm:=hs.small;clear hs xb0 xb1 xc0 xc1;have HB6:=hJ bkb;have HB7:=hJ bkc;clear bka bkb bkc;go_enter func121,ntmps121
 go_wp2_with fail
 generalize (((w.alloc (.cells #[.int .i64 x.const,.slice a n cp] 49)).alloc (.cells #[.int .i64 0,.slice none 0 0] 49)).alloc (.cells #[.int .i64 x.const,.slice none 0 0] 49))=W at *
 go_loopw [8,9] (fun p i wr=>∃ k:Nat,k≤n∧i= .int .i64 k∧p= .bool (prun s c x.terms k).1∧Hid (∃ v,Bx wr (w.heap.size+1+1) 49 [.int .i64 x.const,v]∧Own kCB 46 (fun _=>False) wr (w.heap.size+3) v (prun s c x.terms k).2)∧Hid (Below (w.heap.size+1+1) W wr)) (fun _ i _=>n - (intOf i).toNat)
 case atStart=>exact ⟨0,Nat.zero_le _,rfl,rfl,hJ ⟨_,HB7.out,Own.nil _ _ _ _ _⟩,hJ (Below.refl _ _)⟩
 case round =>
  obtain ⟨k,hk,rfl,rfl,HO,HB⟩:=hrel;obtain ⟨v,hbx,hown⟩:=HO.out;have HBX:=hJ hbx;have HOwn:=hJ hown;clear HO hbx hown;have HLn:=hJ (prun_len s c x.terms k (by rw [HL.out];exact hk));have y1:wr.cell? ⟨w.heap.size,1,none⟩=some (.slice a n cp):=by rw [HB.out.cell (by simp <;> omega)];exact xa1
  have hws:w.heap.size+3≤wr.heap.size:=by have:=HB.out.size;omega
  have hlt0:w.heap.size<wr.heap.size:=by omega
  have hlt2:w.heap.size+1+1<wr.heap.size:=by omega
  have z1:=HBX.out.cell 1 _ rfl;have f1:=HBX.out.fz 1;by_cases hlt:k<n
  · obtain ⟨b,off,rfl,hbW,_⟩:=HS.out.form k hlt
    obtain ⟨c0,c1⟩:=(HS.out.below (B0.out.trans (HB.out.mono (by omega)))).coef k hlt;have HKl:Hid (k<x.terms.length):=hJ (by rw [HL.out];exact hlt);have HNext:=hJ (prun_next (s:=s) (c:=c) HKl.out);obtain ⟨hb1,hb2⟩:=HBd.out _ (kAJ HKl.out);generalize x.terms.getD k default=t at *;generalize prun s c x.terms k=p at *;obtain ⟨put,acc⟩:=p;simp only at HOwn HLn;have hln:acc.length≤k * 2:=HLn.out;cases put with
    | false =>
      by_cases hl:Op.bytesLess s.toList t.v.toList=true
      · have he:(t.v.toList==s.toList)=false:=slt_ne' hl
        have hl2:Op.bytesLess t.v.toList s.toList=false:=kF0 hl;have HStep:=hJ (pstep_new (c:=c) (acc:=acc) hl);have tok1:=True.intro
        go_wp2_with (first
         | (have _t:=tok1
            at_builtin
            refine kA4 kET rfl _ _ rfl (w.heap.size+3) _ _ rfl ((HOwn.out.alloc _).alloc _) _ ⟨s,c⟩ [.string s,.int .i64 c] rfl rfl (kA6 46 (by (simp only [kAK,kAI,Array.getElem?_push,Array.size_push];simp))) (by omega) (by unfold maxLen;omega) (by simp;omega) ?_;intro v9 w9 hown9 hb9 hk9;obtain ⟨a9,m9,c9,rfl⟩:=hown9.shape;have HX9:=hJ (((HBX.out.alloc _).alloc _).kp hk9 (HOwn.out.ne (by omega)));have z9:=HX9.out.cell 1 _ rfl;have f9:=HX9.out.fz 1;have HT9:=hJ ((((Bx.fresh wr 46 [.string t.v,.int .i64 t.c]).alloc _).kp hk9 (fun e=>absurd (HOwn.out.block e).2 (by omega))).other (a:=⟨w.heap.size+1+1,1,none⟩) (u:=.slice a9 m9 c9) (by show w.heap.size+1+1≠_;omega));have HX10:=hJ (HX9.out.set 1 (.slice a9 m9 c9));have HOwn9:=hJ (hown9.set (a:=⟨w.heap.size+1+1,1,none⟩) (.slice a9 m9 c9) (fun _ q=>q.elim) (by show w.heap.size+1+1<_;omega));have z10:=HX10.out.cell 1 _ rfl;have t0:=HT9.out.cell 0 _ rfl;have t1:=HT9.out.cell 1 _ rfl;have HB10:Hid (Below (w.heap.size+1+1) W (w9.setCell ⟨w.heap.size+1+1,1,none⟩ (.slice a9 m9 c9))):=hJ ((((HB.out.alloc (by omega) _).alloc (by simp;omega) _).trans (hb9.mono (by omega))).setCell (by show _≤w.heap.size+1+1;omega) _);clear tok1 hown9 hb9 hk9)
         | (at_builtin
            refine kA4 kET rfl _ _ rfl (w.heap.size+3) _ _ rfl (HOwn9.out.alloc _) _ t [.string t.v,.int .i64 t.c] rfl rfl (kA6 46 (by (simp only [kAK,kAI,Array.getElem?_push,Array.size_push];simp))) (by rw [List.length_append];show (acc.length+1+1) * 24≤_;omega) (by unfold maxLen;rw [List.length_append];show acc.length+1+1≤_;omega) (by have:=HB10.out.size;show _≤Array.size _;simp at *;omega) ?_;intro v11 w11 hown11 hb11 hk11;obtain ⟨a11,m11,c11,rfl⟩:=hown11.shape;have HX11:=hJ ((HX10.out.alloc _).kp hk11 (HOwn9.out.ne (by omega)));have z11:=HX11.out.cell 1 _ rfl;have f11:=HX11.out.fz 1))
        go_roundw
        case rel=>exact ⟨k+1,by omega,by go_num,by rw [HNext.out,HStep.out],hJ ⟨_,HX11.out.set 1 _,by rw [HNext.out,HStep.out];exact hown11.set _ (fun _ q=>q.elim) (by show w.heap.size+1+1<_;omega)⟩,hJ (((HB10.out.alloc (by have:=HB10.out.size;omega) _).trans (hb11.mono (by omega))).setCell (by show _≤w.heap.size+1+1;omega) _)⟩
        case measure=>simp [intOf];omega
      · have hl:Op.bytesLess s.toList t.v.toList=false:=by simpa using hl
        by_cases he:(t.v.toList==s.toList)=true
        · have hl2:Op.bytesLess t.v.toList s.toList=false:=by rw [show t.v=s from (kA3 _ _).1 he];exact bl_irrefl _
          have HStep:=hJ (pstep_eq (s:=s) (c:=c) (acc:=acc) (t:=t) false (show (!false && slt s t.v)=false from by rw [show slt s t.v=false from hl];rfl) he)
          go_wp2_with (at_builtin;refine kA4 kET rfl _ _ rfl (w.heap.size+3) _ _ rfl ((HOwn.out.alloc _).alloc _) _ ⟨t.v,t.c+c⟩ [.string t.v,.int .i64 (t.c+c)] rfl rfl (kA6 46 (by (simp only [kAK,kAI,Array.getElem?_push,Array.size_push];simp))) (by omega) (by unfold maxLen;omega) (by simp;omega) ?_;intro v9 w9 hown9 hb9 hk9;obtain ⟨a9,m9,c9,rfl⟩:=hown9.shape;have HX9:=hJ (((HBX.out.alloc _).alloc _).kp hk9 (HOwn.out.ne (by omega)));have z9:=HX9.out.cell 1 _ rfl;have f9:=HX9.out.fz 1)
          go_roundw
          case rel=>exact ⟨k+1,by omega,by go_num,by rw [HNext.out,HStep.out],hJ ⟨_,HX9.out.set 1 _,by rw [HNext.out,HStep.out];exact hown9.set _ (fun _ q=>q.elim) (by show w.heap.size+1+1<_;omega)⟩,hJ ((((HB.out.alloc (by omega) _).alloc (by simp;omega) _).trans (hb9.mono (by omega))).setCell (by show _≤w.heap.size+1+1;omega) _)⟩
          case measure=>simp [intOf];omega
        · have he:(t.v.toList==s.toList)=false:=by simpa using he
          have hl2:Op.bytesLess t.v.toList s.toList=true:=by
           cases q:Op.bytesLess t.v.toList s.toList with
           | true=>rfl
           | false=>exact absurd ((kA3 _ _).2 (kE4 q hl)) (by rw [show seq t.v s=false from he];decide)
          have HStep:=hJ (pstep_old (s:=s) (c:=c) (acc:=acc) (t:=t) false (show (!false && slt s t.v)=false from by rw [show slt s t.v=false from hl];rfl) he)
          go_wp2_with (at_builtin;refine kA4 kET rfl _ _ rfl (w.heap.size+3) _ _ rfl ((HOwn.out.alloc _).alloc _) _ t [.string t.v,.int .i64 t.c] rfl rfl (kA6 46 (by (simp only [kAK,kAI,Array.getElem?_push,Array.size_push];simp))) (by omega) (by unfold maxLen;omega) (by simp;omega) ?_;intro v9 w9 hown9 hb9 hk9;obtain ⟨a9,m9,c9,rfl⟩:=hown9.shape;have HX9:=hJ (((HBX.out.alloc _).alloc _).kp hk9 (HOwn.out.ne (by omega)));have z9:=HX9.out.cell 1 _ rfl;have f9:=HX9.out.fz 1)
          go_roundw
          case rel=>exact ⟨k+1,by omega,by go_num,by rw [HNext.out,HStep.out],hJ ⟨_,HX9.out.set 1 _,by rw [HNext.out,HStep.out];exact hown9.set _ (fun _ q=>q.elim) (by show w.heap.size+1+1<_;omega)⟩,hJ ((((HB.out.alloc (by omega) _).alloc (by simp;omega) _).trans (hb9.mono (by omega))).setCell (by show _≤w.heap.size+1+1;omega) _)⟩
          case measure=>simp [intOf];omega
    | true =>
      by_cases he:(t.v.toList==s.toList)=true
      · have HStep:=hJ (pstep_eq (s:=s) (c:=c) (acc:=acc) (t:=t) true rfl he)
        go_wp2_with (at_builtin;refine kA4 kET rfl _ _ rfl (w.heap.size+3) _ _ rfl ((HOwn.out.alloc _).alloc _) _ ⟨t.v,t.c+c⟩ [.string t.v,.int .i64 (t.c+c)] rfl rfl (kA6 46 (by (simp only [kAK,kAI,Array.getElem?_push,Array.size_push];simp))) (by omega) (by unfold maxLen;omega) (by simp;omega) ?_;intro v9 w9 hown9 hb9 hk9;obtain ⟨a9,m9,c9,rfl⟩:=hown9.shape;have HX9:=hJ (((HBX.out.alloc _).alloc _).kp hk9 (HOwn.out.ne (by omega)));have z9:=HX9.out.cell 1 _ rfl;have f9:=HX9.out.fz 1)
        go_roundw
        case rel=>exact ⟨k+1,by omega,by go_num,by rw [HNext.out,HStep.out],hJ ⟨_,HX9.out.set 1 _,by rw [HNext.out,HStep.out];exact hown9.set _ (fun _ q=>q.elim) (by show w.heap.size+1+1<_;omega)⟩,hJ ((((HB.out.alloc (by omega) _).alloc (by simp;omega) _).trans (hb9.mono (by omega))).setCell (by show _≤w.heap.size+1+1;omega) _)⟩
        case measure=>simp [intOf];omega
      · have he:(t.v.toList==s.toList)=false:=by simpa using he
        have HStep:=hJ (pstep_old (s:=s) (c:=c) (acc:=acc) (t:=t) true rfl he)
        go_wp2_with (at_builtin;refine kA4 kET rfl _ _ rfl (w.heap.size+3) _ _ rfl ((HOwn.out.alloc _).alloc _) _ t [.string t.v,.int .i64 t.c] rfl rfl (kA6 46 (by (simp only [kAK,kAI,Array.getElem?_push,Array.size_push];simp))) (by omega) (by unfold maxLen;omega) (by simp;omega) ?_;intro v9 w9 hown9 hb9 hk9;obtain ⟨a9,m9,c9,rfl⟩:=hown9.shape;have HX9:=hJ (((HBX.out.alloc _).alloc _).kp hk9 (HOwn.out.ne (by omega)));have z9:=HX9.out.cell 1 _ rfl;have f9:=HX9.out.fz 1)
        go_roundw
        case rel=>exact ⟨k+1,by omega,by go_num,by rw [HNext.out,HStep.out],hJ ⟨_,HX9.out.set 1 _,by rw [HNext.out,HStep.out];exact hown9.set _ (fun _ q=>q.elim) (by show w.heap.size+1+1<_;omega)⟩,hJ ((((HB.out.alloc (by omega) _).alloc (by simp;omega) _).trans (hb9.mono (by omega))).setCell (by show _≤w.heap.size+1+1;omega) _)⟩
        case measure=>simp [intOf];omega
  · obtain rfl:k=n:=by omega
    have HFull:=hJ (prun_full s c x.terms (k:=k) HL.out.symm);have HPos:=hJ (plusF_pos x.terms s c);have HPl:Hid (plus x.terms s c=(plusF x.terms s c).filter nzB):=hJ rfl;generalize plusF x.terms s c=F at *;generalize prun s c x.terms k=p at *;obtain ⟨put,acc⟩:=p;simp only at HOwn HLn HFull;have hln:acc.length≤k * 2:=HLn.out;cases put with
    | false =>
      go_wp2_with (at_builtin;refine kA4 kET rfl _ _ rfl (w.heap.size+3) _ _ rfl (HOwn.out.alloc _) _ ⟨s,c⟩ [.string s,.int .i64 c] rfl rfl (kA6 46 (by (simp only [kAK,kAI,Array.getElem?_push,Array.size_push];simp))) (by omega) (by unfold maxLen;omega) (by simp;omega) ?_;intro v9 w9 hown9 hb9 hk9;obtain ⟨a9,m9,c9,rfl⟩:=hown9.shape;have HX9:=hJ ((HBX.out.alloc _).kp hk9 (HOwn.out.ne (by omega)));have z9:=HX9.out.cell 1 _ rfl;have f9:=HX9.out.fz 1)
      have HF:F=acc++[⟨s,c⟩]:=HFull.out;have HOF:Hid (Own kCB 46 (fun _=>False) (w9.setCell ⟨w.heap.size+1+1,1,none⟩ (.slice a9 m9 c9)) (w.heap.size+3) (.slice a9 m9 c9) F):=hJ (by rw [HF];exact hown9.set _ (fun _ q=>q.elim) (by show w.heap.size+1+1<_;omega));have HX2:=hJ (HX9.out.set 1 (.slice a9 m9 c9));have HB2:Hid (Below (w.heap.size+1+1) W (w9.setCell ⟨w.heap.size+1+1,1,none⟩ (.slice a9 m9 c9))):=hJ (((HB.out.alloc (by omega) _).trans (hb9.mono (by omega))).setCell (by show _≤w.heap.size+1+1;omega) _);clear hown9 hb9 hk9 HX9 HF z1 f1;clear z9 f9;generalize Value.slice a9 m9 c9=vF at *;generalize (w9.setCell ⟨w.heap.size+1+1,1,none⟩ vF)=W2 at *;obtain ⟨gF,cF,rfl,hgF,hlF,hslF,hfF⟩:=HOF.out.open_ HPos.out;have HS0:=hJ (hslF.mono (S':=fun k=>w.heap.size+3≤k) (fun k q _=>by rcases q with q | q;exact q.elim;omega));have HFz:=hJ hfF;have hFs:=hslF.small;have hcF:=hslF.cap;clear hslF hfF HOF HOwn HLn HFull;have HPosL:=hJ HPos.out;have hF0:F.length=F.length:=rfl;generalize hFL:F.length=m at *;have HFL:=hJ hFL;clear hFL hF0
      go_wp2_with fail
      go_loopw [11,12] (fun kk i wr=>∃ i':Nat,i'≤m∧i= .int .i64 i'∧kk= .int .i64 (nzs F i').length∧Hid (Bx wr (w.heap.size+1+1) 49 [.int .i64 x.const,.slice (some ⟨gF,0,none⟩) m cF])∧Hid (∃ M,Sl kCB (fun k=>w.heap.size+3≤k) wr (some ⟨gF,0,none⟩) m cF M∧M.take (nzs F i').length=nzs F i'∧M.drop i'=F.drop i')∧Hid (∀ j,wr.frozen? ⟨gF,j,none⟩=false)∧Hid (Below (w.heap.size+1+1) W wr)) (fun _ i _=>m - (intOf i).toNat)
      case atStart=>exact ⟨0,Nat.zero_le _,rfl,rfl,HX2,hJ ⟨F,HS0.out,rfl,rfl⟩,HFz,HB2⟩
      case round =>
       obtain ⟨i',hi',rfl,rfl,HX3,HM,HFz3,HB3⟩:=hrel;obtain ⟨M,hM1,hM2,hM3⟩:=HM.out;have HM1:=hJ hM1;have HM2:=hJ hM2;have HM3:=hJ hM3;clear HM hM1 hM2 hM3;have q1:=HX3.out.cell 1 _ rfl;have hle:=nzs_len F i';have hws3:w.heap.size+3≤wr.heap.size:=by have:=HB3.out.size;omega
       by_cases hli:i'<m
       · obtain ⟨e0,e1⟩:=HM1.out.coef i' hli
         rw [Nat.zero_add] at e0 e1;have HKF:Hid (i'<F.length):=hJ (by rw [HFL.out];exact hli);have HGet:=hJ (getD_drop HM3.out);rw [HGet.out] at e0 e1;have HNz:=hJ (nzs_next HKF.out);generalize F.getD i' default=y at *;generalize hkk:(nzs F i').length=kk at *;have HKK:=hJ hkk;clear hkk;by_cases hz:y.c=0
         · have hz2:(y.c != 0)=false:=by rw [hz];rfl
           have HN:Hid (nzs F (i'+1)=nzs F i'):=hJ (by rw [HNz.out,if_pos hz]);clear hz
           go_wp2_with fail
           go_roundw
           case rel=>exact ⟨i'+1,by omega,by go_num,by rw [HN.out,HKK.out],HX3,hJ ⟨M,HM1.out,by rw [HN.out,HKK.out];exact HM2.out,kKA HM3.out⟩,HFz3,HB3⟩
           case measure=>simp [intOf];omega
         · have hz2:(y.c != 0)=true:=bne_iff_ne.2 hz
           have HN:Hid (nzs F (i'+1)=nzs F i'++[y]):=hJ (by rw [HNz.out,if_neg hz]);have hkm:kk<m:=by omega
           clear hz;have q1d:wr.cell? ⟨w.heap.size+1+1,1,none⟩=some (.slice (some ⟨gF,0,none⟩) m cF):=q1;have e0d:wr.cell? ⟨gF,i' * 2,none⟩=some (.string y.v):=e0;have e1d:wr.cell? ⟨gF,i' * 2+1,none⟩=some (.int .i64 y.c):=e1;obtain ⟨d0,d1⟩:=HM1.out.coef kk hkm;rw [Nat.zero_add] at d0 d1;have g0:wr.frozen? ⟨gF,kk * 2,none⟩=false:=HFz3.out _;have g1:wr.frozen? ⟨gF,kk * 2+1,none⟩=false:=HFz3.out _
           go_wp2_with fail
           go_region
           all_goals go_wp2_with fail
           all_goals go_roundw
           case rel=>exact ⟨i'+1,by omega,by go_num,by rw [HN.out,List.length_append,HKK.out];rfl,hJ ((HX3.out.drew.other (by show gF≠_;omega)).other (by show gF≠_;omega)),hJ ⟨M.set kk y,(HM1.out.below (Below.refl _ _).drew).setCoef kk hkm y,by rw [HN.out,List.length_append,HKK.out];exact take_put (by rw [HM1.out.len];exact hkm) HM2.out y,by rw [List.drop_set_of_lt (by omega)];exact kKA HM3.out⟩,hJ (fun j=>by show ((wr.setCell ⟨gF,kk * 2,none⟩ (.string y.v)).setCell ⟨gF,kk * 2+1,none⟩ (.int .i64 y.c)).frozen? ⟨gF,j,none⟩=false;rw [World.frozen?_setCell,World.frozen?_setCell];exact HFz3.out j),hJ ((HB3.out.drew.setCell (by show _≤gF;omega) _).setCell (by show _≤gF;omega) _)⟩
           case measure=>simp [intOf];omega
       · obtain rfl:i'=m:=by omega
         have HEnd:Hid (nzs F i'=plus x.terms s c):=hJ (by rw [HPl.out];unfold nzs;rw [List.take_of_length_le (by rw [HFL.out];exact Nat.le_refl _)]);generalize hkk:(nzs F i').length=kk at *;have HKK:=hJ hkk;clear hkk;have f7:=HX3.out.fz 1;have HX4:=hJ (HX3.out.set 1 (.slice (some ⟨gF,0,none⟩) kk cF));have p0:=HX4.out.cell 0 _ rfl;have p1:=HX4.out.cell 1 _ rfl;have HX6:=hJ ((HB6.out.below HB3.out (by omega)).other (a:=⟨w.heap.size+1+1,1,none⟩) (u:=.slice (some ⟨gF,0,none⟩) kk cF) (by show w.heap.size+1+1≠_;omega));have f60:=HX6.out.fz 0;have f61:=HX6.out.fz 1;have r0:=HX6.out.cell 0 _ rfl;have r1:=HX6.out.cell 1 _ rfl;have HX60:=hJ ((HX6.out.set 0 (.int .i64 x.const)).set 1 (.slice (some ⟨gF,0,none⟩) kk cF));have s0:=HX60.out.cell 0 _ rfl;have s1:=HX60.out.cell 1 _ rfl
         go_wp2_with fail
         refine bodyPost_ret (v:=.agg #[.int .i64 x.const,.slice (some ⟨gF,0,none⟩) kk cF]) (by simp [results,results121,go_sem,s0,s1]) rfl ?_;refine ⟨⟨[.int .i64 x.const,.slice (some ⟨gF,0,none⟩) kk cF],rfl,⟨_,rfl,some ⟨gF,0,none⟩,cF,by rw [← HKK.out,HEnd.out],?_⟩⟩,?_⟩
         · have h1:=HM1.out.take kk (by omega)
           rw [HM2.out,HEnd.out] at h1;have h2:(plus x.terms s c).length=kk:=by rw [← HEnd.out];exact HKK.out
           show Sl kCB _ _ _ (plus x.terms s c).length _ (plus x.terms s c)
           rw [h2];refine (h1.frame (fun k hk _=>?_)).mono (fun k hk _=>by omega);rw [kAB (by show w.heap.size+1≠k;omega),kAB (by show w.heap.size+1≠k;omega),kAB (by show w.heap.size+1+1≠k;omega)]
         · exact B0.out.trans ((((HB3.out.mono (by omega)).setCell (by show _≤w.heap.size+1+1;omega) _).setCell (by show _≤w.heap.size+1;omega) _).setCell (by show _≤w.heap.size+1;omega) _)
    | true =>
      go_wp2_with fail
      have HF:F=acc:=HFull.out;have HOF:Hid (Own kCB 46 (fun _=>False) wr (w.heap.size+3) v F):=hJ (by rw [HF];exact HOwn.out);have HX2:=HBX;have HB2:=HB;clear HF;obtain ⟨gF,cF,rfl,hgF,hlF,hslF,hfF⟩:=HOF.out.open_ HPos.out;have HS0:=hJ (hslF.mono (S':=fun k=>w.heap.size+3≤k) (fun k q _=>by rcases q with q | q;exact q.elim;omega));have HFz:=hJ hfF;have hFs:=hslF.small;have hcF:=hslF.cap;clear hslF hfF HOF HOwn HLn HFull;have HPosL:=hJ HPos.out;have hF0:F.length=F.length:=rfl;generalize hFL:F.length=m at *;have HFL:=hJ hFL;clear hFL hF0
      go_wp2_with fail
      go_loopw [11,12] (fun kk i wr=>∃ i':Nat,i'≤m∧i= .int .i64 i'∧kk= .int .i64 (nzs F i').length∧Hid (Bx wr (w.heap.size+1+1) 49 [.int .i64 x.const,.slice (some ⟨gF,0,none⟩) m cF])∧Hid (∃ M,Sl kCB (fun k=>w.heap.size+3≤k) wr (some ⟨gF,0,none⟩) m cF M∧M.take (nzs F i').length=nzs F i'∧M.drop i'=F.drop i')∧Hid (∀ j,wr.frozen? ⟨gF,j,none⟩=false)∧Hid (Below (w.heap.size+1+1) W wr)) (fun _ i _=>m - (intOf i).toNat)
      case atStart=>exact ⟨0,Nat.zero_le _,rfl,rfl,HX2,hJ ⟨F,HS0.out,rfl,rfl⟩,HFz,HB2⟩
      case round =>
       obtain ⟨i',hi',rfl,rfl,HX3,HM,HFz3,HB3⟩:=hrel;obtain ⟨M,hM1,hM2,hM3⟩:=HM.out;have HM1:=hJ hM1;have HM2:=hJ hM2;have HM3:=hJ hM3;clear HM hM1 hM2 hM3;have q1:=HX3.out.cell 1 _ rfl;have hle:=nzs_len F i';have hws3:w.heap.size+3≤wr.heap.size:=by have:=HB3.out.size;omega
       by_cases hli:i'<m
       · obtain ⟨e0,e1⟩:=HM1.out.coef i' hli
         rw [Nat.zero_add] at e0 e1;have HKF:Hid (i'<F.length):=hJ (by rw [HFL.out];exact hli);have HGet:=hJ (getD_drop HM3.out);rw [HGet.out] at e0 e1;have HNz:=hJ (nzs_next HKF.out);generalize F.getD i' default=y at *;generalize hkk:(nzs F i').length=kk at *;have HKK:=hJ hkk;clear hkk;by_cases hz:y.c=0
         · have hz2:(y.c != 0)=false:=by rw [hz];rfl
           have HN:Hid (nzs F (i'+1)=nzs F i'):=hJ (by rw [HNz.out,if_pos hz]);clear hz
           go_wp2_with fail
           go_roundw
           case rel=>exact ⟨i'+1,by omega,by go_num,by rw [HN.out,HKK.out],HX3,hJ ⟨M,HM1.out,by rw [HN.out,HKK.out];exact HM2.out,kKA HM3.out⟩,HFz3,HB3⟩
           case measure=>simp [intOf];omega
         · have hz2:(y.c != 0)=true:=bne_iff_ne.2 hz
           have HN:Hid (nzs F (i'+1)=nzs F i'++[y]):=hJ (by rw [HNz.out,if_neg hz]);have hkm:kk<m:=by omega
           clear hz;have q1d:wr.cell? ⟨w.heap.size+1+1,1,none⟩=some (.slice (some ⟨gF,0,none⟩) m cF):=q1;have e0d:wr.cell? ⟨gF,i' * 2,none⟩=some (.string y.v):=e0;have e1d:wr.cell? ⟨gF,i' * 2+1,none⟩=some (.int .i64 y.c):=e1;obtain ⟨d0,d1⟩:=HM1.out.coef kk hkm;rw [Nat.zero_add] at d0 d1;have g0:wr.frozen? ⟨gF,kk * 2,none⟩=false:=HFz3.out _;have g1:wr.frozen? ⟨gF,kk * 2+1,none⟩=false:=HFz3.out _
           go_wp2_with fail
           go_region
           all_goals go_wp2_with fail
           all_goals go_roundw
           case rel=>exact ⟨i'+1,by omega,by go_num,by rw [HN.out,List.length_append,HKK.out];rfl,hJ ((HX3.out.drew.other (by show gF≠_;omega)).other (by show gF≠_;omega)),hJ ⟨M.set kk y,(HM1.out.below (Below.refl _ _).drew).setCoef kk hkm y,by rw [HN.out,List.length_append,HKK.out];exact take_put (by rw [HM1.out.len];exact hkm) HM2.out y,by rw [List.drop_set_of_lt (by omega)];exact kKA HM3.out⟩,hJ (fun j=>by show ((wr.setCell ⟨gF,kk * 2,none⟩ (.string y.v)).setCell ⟨gF,kk * 2+1,none⟩ (.int .i64 y.c)).frozen? ⟨gF,j,none⟩=false;rw [World.frozen?_setCell,World.frozen?_setCell];exact HFz3.out j),hJ ((HB3.out.drew.setCell (by show _≤gF;omega) _).setCell (by show _≤gF;omega) _)⟩
           case measure=>simp [intOf];omega
       · obtain rfl:i'=m:=by omega
         have HEnd:Hid (nzs F i'=plus x.terms s c):=hJ (by rw [HPl.out];unfold nzs;rw [List.take_of_length_le (by rw [HFL.out];exact Nat.le_refl _)]);generalize hkk:(nzs F i').length=kk at *;have HKK:=hJ hkk;clear hkk;have f7:=HX3.out.fz 1;have HX4:=hJ (HX3.out.set 1 (.slice (some ⟨gF,0,none⟩) kk cF));have p0:=HX4.out.cell 0 _ rfl;have p1:=HX4.out.cell 1 _ rfl;have HX6:=hJ ((HB6.out.below HB3.out (by omega)).other (a:=⟨w.heap.size+1+1,1,none⟩) (u:=.slice (some ⟨gF,0,none⟩) kk cF) (by show w.heap.size+1+1≠_;omega));have f60:=HX6.out.fz 0;have f61:=HX6.out.fz 1;have r0:=HX6.out.cell 0 _ rfl;have r1:=HX6.out.cell 1 _ rfl;have HX60:=hJ ((HX6.out.set 0 (.int .i64 x.const)).set 1 (.slice (some ⟨gF,0,none⟩) kk cF));have s0:=HX60.out.cell 0 _ rfl;have s1:=HX60.out.cell 1 _ rfl
         go_wp2_with fail
         refine bodyPost_ret (v:=.agg #[.int .i64 x.const,.slice (some ⟨gF,0,none⟩) kk cF]) (by simp [results,results121,go_sem,s0,s1]) rfl ?_;refine ⟨⟨[.int .i64 x.const,.slice (some ⟨gF,0,none⟩) kk cF],rfl,⟨_,rfl,some ⟨gF,0,none⟩,cF,by rw [← HKK.out,HEnd.out],?_⟩⟩,?_⟩
         · have h1:=HM1.out.take kk (by omega)
           rw [HM2.out,HEnd.out] at h1;have h2:(plus x.terms s c).length=kk:=by rw [← HEnd.out];exact HKK.out
           show Sl kCB _ _ _ (plus x.terms s c).length _ (plus x.terms s c)
           rw [h2];refine (h1.frame (fun k hk _=>?_)).mono (fun k hk _=>by omega);rw [kAB (by show w.heap.size+1≠k;omega),kAB (by show w.heap.size+1≠k;omega),kAB (by show w.heap.size+1+1≠k;omega)]
         · exact B0.out.trans ((((HB3.out.mono (by omega)).setCell (by show _≤w.heap.size+1+1;omega) _).setCell (by show _≤w.heap.size+1;omega) _).setCell (by show _≤w.heap.size+1;omega) _)
theorem binds_at {l:List Bnd} (h:kCU l=true) {k:Nat} (hk:k<l.length):kFG (l.getD k default)=true∧kB2 (l.take k) (l.getD k default).kind (l.getD k default).v<0:=by
 have:=(List.all_eq_true.1 h) k (List.mem_range.2 hk);unfold bndOk at this;rw [Bool.and_eq_true] at this;exact ⟨this.1,of_decide_eq_true this.2⟩
theorem kEL {S:Blk} (l:List Bnd) (a:Option Addr) (n c:Nat) (w:World) (h:Sl RBnd S w a n c l) (hv:kCU l=true) (E:Env w) :
 Calls Tryz.prog 132 #[.slice a n c] w fun e w'=>e= .returned (.bool true)∧Below w.heap.size w w':=by
 have H:=hJ h;have HV:=hJ hv;have EE:=hJ E;have hn:=h.small;have hcap:=h.cap;clear h hv E;go_enter func132,ntmps132
 go_wp2_with fail
 go_loopw [7] (fun i wr=>∃ k:Nat,k≤n∧i= .int .i64 k∧Below w.heap.size w wr) (fun i _=>n - (intOf i).toNat)
 case atStart=>exact ⟨0,Nat.zero_le _,rfl,Below.refl _ _⟩
 case round =>
  obtain ⟨k,hk,rfl,hB⟩:=hrel;by_cases hlt:k<n
  · obtain ⟨b,off,rfl,hbW,_⟩:=H.out.form k hlt
    have HR:=hJ (H.out.below hB);obtain ⟨t,d,hr,⟨⟨ta,tc,rfl,htt⟩,⟨da,dc,rfl,hdd⟩⟩,c0,c1,c2,c3,c4,c5,c6⟩:=HR.out.bnd k hlt;have HX:=hJ (binds_at HV.out (k:=k) (by rw [H.out.len];exact hlt));have hq:decide (0≤kB2 (l.take k) (l.getD k default).kind (l.getD k default).v)=false:=decide_eq_false (by have:=HX.out.2;omega);have HT:=hJ (HR.out.take k hk);have HRX:=hJ hr;have HC2:=hJ (fun (W:World) (hW:Below wr.heap.size wr W)=>kH2 (l.take k) _ k c W (HT.out.below hW) (l.getD k default).kind (l.getD k default).v);have HC1:=hJ (fun (W:World) (hW:Below wr.heap.size wr W)=>shape_bound (RBnd.below HRX.out hW) HX.out.1 (EE.out.below (hB.trans (hW.mono hB.size))));clear hr htt hdd;generalize kB2 (l.take k) (l.getD k default).kind (l.getD k default).v=q at *;generalize l.getD k default=x at *
    go_wp2_with fail
    have hA:Below wr.heap.size wr (wr.alloc (.cells #[.int .i64 x.kind,.string x.v,.int .i64 x.dim.const,.slice ta x.dim.terms.length tc,.string x.row.row,.slice da x.row.dims.length dc,.string x.elem] 114)):=(Below.refl _ _).alloc (Nat.le_refl _) _;have e0:(wr.alloc (.cells #[.int .i64 x.kind,.string x.v,.int .i64 x.dim.const,.slice ta x.dim.terms.length tc,.string x.row.row,.slice da x.row.dims.length dc,.string x.elem] 114)).cell? ⟨wr.heap.size,0,none⟩=some (.int .i64 x.kind):=by simp [go_sem]
    have e1:(wr.alloc (.cells #[.int .i64 x.kind,.string x.v,.int .i64 x.dim.const,.slice ta x.dim.terms.length tc,.string x.row.row,.slice da x.row.dims.length dc,.string x.elem] 114)).cell? ⟨wr.heap.size,1,none⟩=some (.string x.v):=by simp [go_sem]
    have e2:(wr.alloc (.cells #[.int .i64 x.kind,.string x.v,.int .i64 x.dim.const,.slice ta x.dim.terms.length tc,.string x.row.row,.slice da x.row.dims.length dc,.string x.elem] 114)).cell? ⟨wr.heap.size,2,none⟩=some (.int .i64 x.dim.const):=by simp [go_sem]
    have e3:(wr.alloc (.cells #[.int .i64 x.kind,.string x.v,.int .i64 x.dim.const,.slice ta x.dim.terms.length tc,.string x.row.row,.slice da x.row.dims.length dc,.string x.elem] 114)).cell? ⟨wr.heap.size,3,none⟩=some (.slice ta x.dim.terms.length tc):=by simp [go_sem]
    have e4:(wr.alloc (.cells #[.int .i64 x.kind,.string x.v,.int .i64 x.dim.const,.slice ta x.dim.terms.length tc,.string x.row.row,.slice da x.row.dims.length dc,.string x.elem] 114)).cell? ⟨wr.heap.size,4,none⟩=some (.string x.row.row):=by simp [go_sem]
    have e5:(wr.alloc (.cells #[.int .i64 x.kind,.string x.v,.int .i64 x.dim.const,.slice ta x.dim.terms.length tc,.string x.row.row,.slice da x.row.dims.length dc,.string x.elem] 114)).cell? ⟨wr.heap.size,5,none⟩=some (.slice da x.row.dims.length dc):=by simp [go_sem]
    have e6:(wr.alloc (.cells #[.int .i64 x.kind,.string x.v,.int .i64 x.dim.const,.slice ta x.dim.terms.length tc,.string x.row.row,.slice da x.row.dims.length dc,.string x.elem] 114)).cell? ⟨wr.heap.size,6,none⟩=some (.string x.elem):=by simp [go_sem]
    clear c0 c1 c2 c3 c4 c5 c6;have hws:wr.heap.size<(wr.alloc (.cells #[.int .i64 x.kind,.string x.v,.int .i64 x.dim.const,.slice ta x.dim.terms.length tc,.string x.row.row,.slice da x.row.dims.length dc,.string x.elem] 114)).heap.size:=by simp
    generalize (wr.alloc (.cells #[.int .i64 x.kind,.string x.v,.int .i64 x.dim.const,.slice ta x.dim.terms.length tc,.string x.row.row,.slice da x.row.dims.length dc,.string x.elem] 114))=w2 at *;have HC1:=hJ (fun t:Later w2=>HC1.out t.w (hA.trans (t.b.mono hA.size)));have HC2:=hJ (fun t:Later w2=>HC2.out t.w (hA.trans (t.b.mono hA.size)));have e0:=Later.cell e0;have e1:=Later.cell e1;have e2:=Later.cell e2;have e3:=Later.cell e3;have e4:=Later.cell e4;have e5:=Later.cell e5;have e6:=Later.cell e6;have hBA:=hJ (hB.trans (hA.mono hB.size));clear hA
    go_wp2_with fail
    refine kAA (by kernel_rfl) (by kernel_rfl) ?_
    repeat (go_big_quiet_step (first | fail | exact Later.call (HC1.out _) | exact Later.call (HC2.out _)))
    refine wpQuiet_nil ?_;rintro _ ⟨t9,rfl⟩
    go_wp2_with fail
    go_roundw
    case rel=>exact ⟨k+1,by omega,by go_num,hBA.out.trans (t9.b.mono hBA.out.size)⟩
    case measure=>simp [intOf];omega
  · go_wp2_with fail
    go_ret;exact ⟨rfl,hB⟩
theorem kJF {l0:List Bnd} {x:Lin} {j:Nat} (hj:j<x.terms.length):addAll l0 ((kA0 x).take (j+1))=addV (addAll l0 ((kA0 x).take j)) 1 ((kA0 x).getD j default):=by
 have h:j<(kA0 x).length:=by unfold kA0;rw [List.length_map];exact hj
 rw [kBB h,kIE];rfl
theorem varsL_len (x:Lin):(kA0 x).length=x.terms.length:=by unfold kA0;rw [List.length_map]
theorem rowV_some {s:Shp} (h:s.row.toList.isEmpty=false):rowV s=[]++[bare 2 s.row]:=by
 unfold rowV;rw [h];rfl
theorem Sl.str {S:Blk} {w:World} {b off n c:Nat} {l:List Str} (h:Sl RStr S w (some ⟨b,off,none⟩) n c l) (k:Nat) (hk:k<n):w.cell? ⟨b,off+k,none⟩=some (.string (l.getD k default)):=by
 obtain ⟨cs,hr,hc⟩:=h.cells k _ (kEN (by rw [h.len];exact hk));obtain rfl:cs=_:=hr;have:=hc 0 _ rfl
 simpa [RStr] using this
def At (a:Option Addr):Blk:=fun k=>∃ b,a=some b∧b.block=k
theorem Sl.selfStr {S:Blk} {w:World} {a:Option Addr} {n c:Nat} {l:List Str} (h:Sl RStr S w a n c l):Sl RStr (At a) w a n c l :=
 ⟨h.len,h.cap,h.max,h.nil,fun i x hx=>let ⟨b,off,cs,ha,_,hr,hc⟩:=h.at_ i x hx;⟨b,off,cs,ha,⟨_,ha,rfl⟩,hr,hc⟩⟩
theorem addV_old {l:List Bnd} {k:Int} {v:Str} (h:0≤kB2 l k v):addV l k v=l:=by unfold addV;rw [if_pos h]
theorem addV_new {l:List Bnd} {k:Int} {v:Str} (h:kB2 l k v<0):addV l k v=l++[bare k v]:=by unfold addV;rw [if_neg (by omega)]
theorem shape_Vars {S:Blk} {s:Shp} {cs:List Value} {w:World} (h:RShp.rd S w cs s) (hv:kAF s=true) (E:Env w) :
 Calls Tryz.prog 184 #[.agg cs.toArray] w fun e w'=>(∃ v,e= .returned v∧Own RBnd 114 (fun _=>False) w' w.heap.size v (kIF s))∧Below w.heap.size w w':=by
 have HV:Hid (∀ W,Below w.heap.size w W→Calls Tryz.prog 143 #[.agg cs.toArray] W fun e w'=>e= .returned (.bool true)∧Below W.heap.size W w') :=
  hJ (fun W hW=>hv ▸ kD5 (RShp.below h hW) (shp_sz hv) (E.below hW))
 obtain ⟨t,rfl,a,c,rfl,hs⟩:=h;have hm:=hs.small;have HS0:=hJ hs;clear hs;have hL:s.dims.length=s.dims.length:=rfl;generalize hL2:s.dims.length=n at *;have HL:=hJ hL2;clear hL hL2;obtain ⟨B0,ya,hW0⟩:=box1 w 52 [.string s.row,.slice a n c];have xa0:=box0 ya 0 _ rfl;have xa1:=box0 ya 1 _ rfl;clear ya;have HD:=hJ (kEZ hv);have HF:Hid (kIF s=varsS s):=hJ (by unfold kIF;rw [hv];rfl);clear hv E;go_enter func184,ntmps184
 go_wp2_with fail
 refine (HV.out _ B0.out).mono ?_;rintro e w1 ⟨rfl,hb⟩;have y0:=kAG xa0 _ hb;have y1:=kAG xa1 _ hb;have HW:=hJ (B0.out.trans (hb.mono B0.out.size));have HS:=hJ (HS0.out.below HW.out);clear xa0 xa1;by_cases he:s.row.toList.isEmpty=true
 · have HO0:Hid (Own RBnd 114 (fun _=>False) w1 w1.heap.size (.slice none 0 0) (addAll (rowV s) ((s.dims.take 0).flatMap kA0))):=hJ (by
    have:rowV s=[]:=by unfold rowV;rw [he];rfl
    rw [this];exact Own.nil _ _ _ _ _)
   have hB0:Below w1.heap.size w1 w1:=Below.refl _ _
   go_wp2_with fail
   go_loopw [3,23] (fun v i wr=>∃ (k:Nat) (v0:Value),k≤n∧i= .int .i64 k∧v0=v∧Hid (Own RBnd 114 (fun _=>False) wr w1.heap.size v (addAll (rowV s) ((s.dims.take k).flatMap kA0)))∧Below w1.heap.size w1 wr) (fun _ i _=>n - (intOf i).toNat)
   case atStart=>exact ⟨0,_,Nat.zero_le _,rfl,rfl,HO0,hB0⟩
   case round =>
    obtain ⟨k,v0,hk,rfl,rfl,HO,hB⟩:=hrel;by_cases hlt:k<n
    · obtain ⟨b,off,rfl,hbW,_⟩:=HS.out.form k hlt
      have HK:Hid (k<s.dims.length):=hJ (by rw [HL.out];exact hlt);have HX:=hJ (kDI (HD.out.2 _ (kAJ HK.out)));have HNext:Hid ((s.dims.take (k+1)).flatMap kA0=(s.dims.take k).flatMap kA0++kA0 (s.dims.getD k default)):=hJ (by rw [kBB HK.out,List.flatMap_append];simp)
      have HLen:Hid ((addAll (rowV s) ((s.dims.take k).flatMap kA0)).length≤100):=hJ (by
       have q1:=kDQ ((s.dims.take k).flatMap kA0) (rowV s);have q2:=rowV_len s;have q3:=kJ8 (s.dims.take k) (fun x hx=>HD.out.2 x (List.mem_of_mem_take hx));have q4:=HD.out.1;rw [List.length_take] at q3;omega)
      obtain ⟨t,hr,hd,c0,c1⟩:=(HS.out.below hB).lin k hlt;obtain ⟨ta,tc,rfl,hts⟩:=hd;have HT:=hJ hts;clear hr hts;generalize s.dims.getD k default=x at *;generalize hl0:addAll (rowV s) ((s.dims.take k).flatMap kA0)=l0 at *;have HL0:=hJ hl0;clear hl0;have HC:=hJ (fun (W:World) (hW:Below wr.heap.size wr W)=>kI9 x ta _ tc W (HT.out.below hW) (by have:=HX.out;omega));generalize hXL:x.terms.length=m at *;have HXL:=hJ hXL;clear hXL
      go_wp2_with fail
      refine (HC.out _ ((Below.refl _ _).alloc (Nat.le_refl _) _)).mono ?_;rintro e w2 ⟨⟨v2,rfl,hown2⟩,hb2⟩;obtain ⟨a2,c2,rfl,hsl2⟩:=hown2.sl;have hB2:Below w1.heap.size w1 w2:=hB.trans ((((Below.refl _ _).alloc (Nat.le_refl _) _).trans (hb2.mono (by simp))).mono hB.size);have HO2:=hJ (HO.out.below (((Below.refl _ _).alloc (Nat.le_refl _) _).trans (hb2.mono (by simp))));have hvl:(kA0 x).length=m:=by rw [varsL_len,HXL.out]
      rw [hvl] at hsl2;have HSL2:=hJ hsl2.selfStr
      have HNe:Hid (∀ k,At a2 k→v0.ownBlock≠some k):=hJ (fun k hk e=>by
       obtain ⟨b,rfl,rfl⟩:=hk;have h1:=hown2.base_le b.block (by rfl);have h2:=(HO.out.block e).2;simp at h1;omega)
      have hm2:=hsl2.small
      have HNe2:Hid (∀ k,At a2 k→k<w2.heap.size∧v0.ownBlock≠some k):=hJ (fun k hk=>⟨by
       obtain ⟨b,rfl,rfl⟩:=hk;exact (hown2.block (by rfl)).2,HNe.out k hk⟩)
      clear hsl2 hown2 hb2 HO hB c0 c1;rw [hvl];have HVL:=hJ hvl;clear hvl
      go_wp2_with fail
      go_loopw [3,30] (fun v i wr=>∃ j:Nat,j≤m∧i= .int .i64 j∧Hid (Own RBnd 114 (fun _=>False) wr w1.heap.size v (addAll l0 ((kA0 x).take j)))∧Hid (Sl RStr (At a2) wr a2 m c2 (kA0 x))∧Hid (∀ k,At a2 k→k<w2.heap.size∧v.ownBlock≠some k)∧Below w1.heap.size w1 wr∧w2.heap.size≤wr.heap.size) (fun _ i _=>m - (intOf i).toNat)
      case atStart=>exact ⟨0,Nat.zero_le _,rfl,HO2,HSL2,HNe2,hB2,Nat.le_refl _⟩
      case round =>
       obtain ⟨j,hj,rfl,HO3,HS3,HN3,hB4,hsz4⟩:=hrel;by_cases hlj:j<m
       · obtain ⟨b2,off2,rfl,hbW2,_⟩:=HS3.out.form j hlj
         have f0:=HS3.out.str j hlj;have HKj:Hid (j<x.terms.length):=hJ (by rw [HXL.out];exact hlj);have HStep:=hJ (kJF (l0:=l0) HKj.out)
         have hLen2:(addAll l0 ((kA0 x).take j)).length≤1000000:=by
          have q1:=kDQ ((kA0 x).take j) l0;have q2:=HLen.out;rw [List.length_take] at q1;have q3:=HX.out;have q4:=HXL.out;omega
         obtain ⟨a3,c3,rfl,hsl3⟩:=HO3.out.sl;have HC3:=hJ (kH2 _ a3 _ c3 wr hsl3 1 ((kA0 x).getD j default));have HOld:=hJ (fun q=>addV_old (l:=addAll l0 ((kA0 x).take j)) (k:=1) (v:=(kA0 x).getD j default) q);have HNew:=hJ (fun q=>addV_new (l:=addAll l0 ((kA0 x).take j)) (k:=1) (v:=(kA0 x).getD j default) q);clear hsl3;generalize (kA0 x).getD j default=y at *;generalize addAll l0 ((kA0 x).take j)=l1 at *;generalize kB2 l1 1 y=q at *;by_cases hq:q<0
         · have HNew:=hJ (HNew.out hq)
           go_wp2_with fail
           refine (HC3.out).mono ?_;rintro e w4 ⟨rfl,hb4⟩
           go_wp2_with (at_builtin;refine kA4 elemBnd rfl _ _ rfl w1.heap.size _ _ rfl ((HO3.out.below hb4).alloc _) _ (bare 1 y) [.int .i64 1,.string y,.int .i64 0,.slice none 0 0,.string ⟨#[]⟩,.slice none 0 0,.string ⟨#[]⟩] rfl (⟨_,_,rfl,⟨none,0,rfl,Sl.empty _ _ _⟩,⟨none,0,rfl,Sl.empty _ _ _⟩⟩) (kA6 114 (by (simp only [kAK,kAI,Array.getElem?_push,Array.size_push];simp))) (by rw [(show l1.length=l1.length from rfl)];omega) (by unfold maxLen;rw [(show l1.length=l1.length from rfl)];omega) (by have:=hB4.size;have:=hb4.size;simp;omega) ?_;intro v9 w9 hown9 hb9 hk9)
           go_roundw
           case rel=>exact ⟨j+1,by omega,by go_num,hJ (by rw [HStep.out,HNew.out];exact hown9),hJ (((HS3.out.below hb4).below ((Below.refl _ _).alloc (Nat.le_refl _) _)).frame (fun k hk hlt=>hk9.block k hlt (HN3.out k hk).2)),hJ (fun k hk=>⟨(HN3.out k hk).1,fun e=>by rcases hk9.own with q | q;rw [q] at e;exact (HN3.out k hk).2 e;rw [q] at e;have:=(HN3.out k hk).1;have h4:=hb4.size;simp at e;omega⟩),(hB4.trans ((hb4.alloc hb4.size _).mono hB4.size)).trans hb9,by have h4:=hb4.size;have h9:=hb9.size;simp at h9;omega⟩
           case measure=>simp [intOf];omega
         · have HOld:=hJ (HOld.out (by omega))
           have hq2:0≤q:=by omega
           clear hq
           go_wp2_with fail
           refine (HC3.out).mono ?_;rintro e w4 ⟨rfl,hb4⟩
           go_wp2_with fail
           go_roundw
           case rel=>exact ⟨j+1,by omega,by go_num,hJ (by rw [HStep.out,HOld.out];exact HO3.out.below hb4),hJ (HS3.out.below hb4),HN3,hB4.trans (hb4.mono hB4.size),Nat.le_trans hsz4 hb4.size⟩
           case measure=>simp [intOf];omega
       · have HEnd:Hid (addAll l0 ((kA0 x).take j)=addAll l0 (kA0 x)):=hJ (by
          rw [List.take_of_length_le];rw [HVL.out];omega)
         go_wp2_with fail
         go_roundw
         case rel=>exact ⟨k+1,_,by omega,by go_num,rfl,hJ (by rw [HNext.out,kIE,HL0.out,← HEnd.out];exact HO3.out),hB4⟩
         case measure=>simp [intOf];omega
    · have HAll:Hid (s.dims.take k=s.dims):=hJ (List.take_of_length_le (by rw [HL.out];omega))
      go_wp2_with fail
      go_ret;exact ⟨⟨_,rfl,by rw [HF.out];unfold varsS;have:=HO.out.lower HW.out.size;rwa [HAll.out] at this⟩,HW.out.trans (hB.mono HW.out.size)⟩
 · have he:s.row.toList.isEmpty=false:=by simpa using he
   have HR:=hJ (rowV_some he)
   go_wp2_with (at_builtin;refine kA4 elemBnd rfl _ _ rfl w1.heap.size _ _ rfl ((Own.nil RBnd 114 (fun _=>False) w1 w1.heap.size).alloc _) _ (bare 2 s.row) [.int .i64 2,.string s.row,.int .i64 0,.slice none 0 0,.string ⟨#[]⟩,.slice none 0 0,.string ⟨#[]⟩] rfl ⟨_,_,rfl,⟨none,0,rfl,Sl.empty _ _ _⟩,⟨none,0,rfl,Sl.empty _ _ _⟩⟩ (kA6 114 (by (simp only [kAK,kAI,Array.getElem?_push,Array.size_push];simp))) (by decide) (by decide) (by simp) ?_;intro v9 w9 hown9 hb9 hk9;have z9:=kAG y1 _ (((Below.refl _ _).alloc (Nat.le_refl _) _).trans hb9))
   have HO0:Hid (Own RBnd 114 (fun _=>False) w9 w1.heap.size v9 (addAll (rowV s) ((s.dims.take 0).flatMap kA0))):=hJ (by rw [HR.out];exact hown9);have hB0:Below w1.heap.size w1 w9:=((Below.refl _ _).alloc (Nat.le_refl _) _).trans (hb9.mono (by simp));clear hown9
   go_loopw [3,23] (fun v i wr=>∃ (k:Nat) (v0:Value),k≤n∧i= .int .i64 k∧v0=v∧Hid (Own RBnd 114 (fun _=>False) wr w1.heap.size v (addAll (rowV s) ((s.dims.take k).flatMap kA0)))∧Below w1.heap.size w1 wr) (fun _ i _=>n - (intOf i).toNat)
   case atStart=>exact ⟨0,_,Nat.zero_le _,rfl,rfl,HO0,hB0⟩
   case round =>
    obtain ⟨k,v0,hk,rfl,rfl,HO,hB⟩:=hrel;by_cases hlt:k<n
    · obtain ⟨b,off,rfl,hbW,_⟩:=HS.out.form k hlt
      have HK:Hid (k<s.dims.length):=hJ (by rw [HL.out];exact hlt);have HX:=hJ (kDI (HD.out.2 _ (kAJ HK.out)));have HNext:Hid ((s.dims.take (k+1)).flatMap kA0=(s.dims.take k).flatMap kA0++kA0 (s.dims.getD k default)):=hJ (by rw [kBB HK.out,List.flatMap_append];simp)
      have HLen:Hid ((addAll (rowV s) ((s.dims.take k).flatMap kA0)).length≤100):=hJ (by
       have q1:=kDQ ((s.dims.take k).flatMap kA0) (rowV s);have q2:=rowV_len s;have q3:=kJ8 (s.dims.take k) (fun x hx=>HD.out.2 x (List.mem_of_mem_take hx));have q4:=HD.out.1;rw [List.length_take] at q3;omega)
      obtain ⟨t,hr,hd,c0,c1⟩:=(HS.out.below hB).lin k hlt;obtain ⟨ta,tc,rfl,hts⟩:=hd;have HT:=hJ hts;clear hr hts;generalize s.dims.getD k default=x at *;generalize hl0:addAll (rowV s) ((s.dims.take k).flatMap kA0)=l0 at *;have HL0:=hJ hl0;clear hl0;have HC:=hJ (fun (W:World) (hW:Below wr.heap.size wr W)=>kI9 x ta _ tc W (HT.out.below hW) (by have:=HX.out;omega));generalize hXL:x.terms.length=m at *;have HXL:=hJ hXL;clear hXL
      go_wp2_with fail
      refine (HC.out _ ((Below.refl _ _).alloc (Nat.le_refl _) _)).mono ?_;rintro e w2 ⟨⟨v2,rfl,hown2⟩,hb2⟩;obtain ⟨a2,c2,rfl,hsl2⟩:=hown2.sl;have hB2:Below w1.heap.size w1 w2:=hB.trans ((((Below.refl _ _).alloc (Nat.le_refl _) _).trans (hb2.mono (by simp))).mono hB.size);have HO2:=hJ (HO.out.below (((Below.refl _ _).alloc (Nat.le_refl _) _).trans (hb2.mono (by simp))));have hvl:(kA0 x).length=m:=by rw [varsL_len,HXL.out]
      rw [hvl] at hsl2;have HSL2:=hJ hsl2.selfStr
      have HNe:Hid (∀ k,At a2 k→v0.ownBlock≠some k):=hJ (fun k hk e=>by
       obtain ⟨b,rfl,rfl⟩:=hk;have h1:=hown2.base_le b.block (by rfl);have h2:=(HO.out.block e).2;simp at h1;omega)
      have hm2:=hsl2.small
      have HNe2:Hid (∀ k,At a2 k→k<w2.heap.size∧v0.ownBlock≠some k):=hJ (fun k hk=>⟨by
       obtain ⟨b,rfl,rfl⟩:=hk;exact (hown2.block (by rfl)).2,HNe.out k hk⟩)
      clear hsl2 hown2 hb2 HO hB c0 c1;rw [hvl];have HVL:=hJ hvl;clear hvl
      go_wp2_with fail
      go_loopw [3,30] (fun v i wr=>∃ j:Nat,j≤m∧i= .int .i64 j∧Hid (Own RBnd 114 (fun _=>False) wr w1.heap.size v (addAll l0 ((kA0 x).take j)))∧Hid (Sl RStr (At a2) wr a2 m c2 (kA0 x))∧Hid (∀ k,At a2 k→k<w2.heap.size∧v.ownBlock≠some k)∧Below w1.heap.size w1 wr∧w2.heap.size≤wr.heap.size) (fun _ i _=>m - (intOf i).toNat)
      case atStart=>exact ⟨0,Nat.zero_le _,rfl,HO2,HSL2,HNe2,hB2,Nat.le_refl _⟩
      case round =>
       obtain ⟨j,hj,rfl,HO3,HS3,HN3,hB4,hsz4⟩:=hrel;by_cases hlj:j<m
       · obtain ⟨b2,off2,rfl,hbW2,_⟩:=HS3.out.form j hlj
         have f0:=HS3.out.str j hlj;have HKj:Hid (j<x.terms.length):=hJ (by rw [HXL.out];exact hlj);have HStep:=hJ (kJF (l0:=l0) HKj.out)
         have hLen2:(addAll l0 ((kA0 x).take j)).length≤1000000:=by
          have q1:=kDQ ((kA0 x).take j) l0;have q2:=HLen.out;rw [List.length_take] at q1;have q3:=HX.out;have q4:=HXL.out;omega
         obtain ⟨a3,c3,rfl,hsl3⟩:=HO3.out.sl;have HC3:=hJ (kH2 _ a3 _ c3 wr hsl3 1 ((kA0 x).getD j default));have HOld:=hJ (fun q=>addV_old (l:=addAll l0 ((kA0 x).take j)) (k:=1) (v:=(kA0 x).getD j default) q);have HNew:=hJ (fun q=>addV_new (l:=addAll l0 ((kA0 x).take j)) (k:=1) (v:=(kA0 x).getD j default) q);clear hsl3;generalize (kA0 x).getD j default=y at *;generalize addAll l0 ((kA0 x).take j)=l1 at *;generalize kB2 l1 1 y=q at *;by_cases hq:q<0
         · have HNew:=hJ (HNew.out hq)
           go_wp2_with fail
           refine (HC3.out).mono ?_;rintro e w4 ⟨rfl,hb4⟩
           go_wp2_with (at_builtin;refine kA4 elemBnd rfl _ _ rfl w1.heap.size _ _ rfl ((HO3.out.below hb4).alloc _) _ (bare 1 y) [.int .i64 1,.string y,.int .i64 0,.slice none 0 0,.string ⟨#[]⟩,.slice none 0 0,.string ⟨#[]⟩] rfl (⟨_,_,rfl,⟨none,0,rfl,Sl.empty _ _ _⟩,⟨none,0,rfl,Sl.empty _ _ _⟩⟩) (kA6 114 (by (simp only [kAK,kAI,Array.getElem?_push,Array.size_push];simp))) (by rw [(show l1.length=l1.length from rfl)];omega) (by unfold maxLen;rw [(show l1.length=l1.length from rfl)];omega) (by have:=hB4.size;have:=hb4.size;simp;omega) ?_;intro v9 w9 hown9 hb9 hk9)
           go_roundw
           case rel=>exact ⟨j+1,by omega,by go_num,hJ (by rw [HStep.out,HNew.out];exact hown9),hJ (((HS3.out.below hb4).below ((Below.refl _ _).alloc (Nat.le_refl _) _)).frame (fun k hk hlt=>hk9.block k hlt (HN3.out k hk).2)),hJ (fun k hk=>⟨(HN3.out k hk).1,fun e=>by rcases hk9.own with q | q;rw [q] at e;exact (HN3.out k hk).2 e;rw [q] at e;have:=(HN3.out k hk).1;have h4:=hb4.size;simp at e;omega⟩),(hB4.trans ((hb4.alloc hb4.size _).mono hB4.size)).trans hb9,by have h4:=hb4.size;have h9:=hb9.size;simp at h9;omega⟩
           case measure=>simp [intOf];omega
         · have HOld:=hJ (HOld.out (by omega))
           have hq2:0≤q:=by omega
           clear hq
           go_wp2_with fail
           refine (HC3.out).mono ?_;rintro e w4 ⟨rfl,hb4⟩
           go_wp2_with fail
           go_roundw
           case rel=>exact ⟨j+1,by omega,by go_num,hJ (by rw [HStep.out,HOld.out];exact HO3.out.below hb4),hJ (HS3.out.below hb4),HN3,hB4.trans (hb4.mono hB4.size),Nat.le_trans hsz4 hb4.size⟩
           case measure=>simp [intOf];omega
       · have HEnd:Hid (addAll l0 ((kA0 x).take j)=addAll l0 (kA0 x)):=hJ (by
          rw [List.take_of_length_le];rw [HVL.out];omega)
         go_wp2_with fail
         go_roundw
         case rel=>exact ⟨k+1,_,by omega,by go_num,rfl,hJ (by rw [HNext.out,kIE,HL0.out,← HEnd.out];exact HO3.out),hB4⟩
         case measure=>simp [intOf];omega
    · have HAll:Hid (s.dims.take k=s.dims):=hJ (List.take_of_length_le (by rw [HL.out];omega))
      go_wp2_with fail
      go_ret;exact ⟨⟨_,rfl,by rw [HF.out];unfold varsS;have:=HO.out.lower HW.out.size;rwa [HAll.out] at this⟩,HW.out.trans (hB.mono HW.out.size)⟩
theorem Sl.selfCoef {S:Blk} {w:World} {a:Option Addr} {n c:Nat} {l:List Coef} (h:Sl kCB S w a n c l):Sl kCB (At a) w a n c l :=
 ⟨h.len,h.cap,h.max,h.nil,fun i x hx=>let ⟨b,off,cs,ha,_,hr,hc⟩:=h.at_ i x hx;⟨b,off,cs,ha,⟨_,ha,rfl⟩,hr,hc⟩⟩
theorem at_own {a:Option Addr} {n c k:Nat} (h:At a k):(Value.slice a n c).ownBlock=some k:=by
 obtain ⟨b,rfl,rfl⟩:=h;rfl
theorem timesT_take {l:List Coef} {x:List Coef} {k:Int} {i:Nat} (h:i<x.length):kC7 l (x.take (i+1)) k=plus (kC7 l (x.take i) k) (x.getD i default).v (k * (x.getD i default).c):=by
 unfold kC7;rw [kBB h,List.foldl_append];rfl
theorem timesT_coef {l x:List Coef} {k:Int} {i:Nat} (h:i<x.length) (hs:Srt l) (v:Str):kAP (kC7 l (x.take (i+1)) k) v=if seq (x.getD i default).v v then kAP (kC7 l (x.take i) k) (x.getD i default).v+k * (x.getD i default).c else kAP (kC7 l (x.take i) k) v:=by
 rw [timesT_take h,plus_coef (times_srt _ _ _ hs)]
 split
 · next q=>rw [(kA3 _ _).1 q]
 · omega
theorem kGL {n:Int} (hn:0≤n):∀ {l:List Coef},Bd n l→∀ v,-n≤kAP l v∧kAP l v≤n
 | [],_,v=>by unfold kAP;omega
 | t :: l,h,v=>by
   unfold kAP
   split
   · exact h t (List.mem_cons_self ..)
   · exact kGL hn (fun u hu=>h u (List.mem_cons_of_mem _ hu)) v
theorem sum_add {S:Blk} {y:Lin} {cs:List Value} {w:World} (h:RLin.rd S w cs y) (hy:kAC y=true) (p bm n:Nat) (D:DataW Unit) (x:Lin) {n0:Nat} (hn0:n0≤12) (hok:SumOk n0 x) (hBx:Bx w p 143 [.int .i64 x.const,.map (some bm)]) (hM:MapF w bm n D (kAP x.terms)) (hn:n≤1000) (k:Int) (hk: -1000000≤k∧k≤1000000) (hpS:∀ q,S q→q≠p∧q≠bm) (hpb:p≠bm) :
 Calls Tryz.prog 191 #[.pointer (some ⟨p,0,none⟩),.agg cs.toArray,.int .i64 k] w fun e w'=>e= .returned (.tuple #[])∧Bx w' p 143 [.int .i64 (kG6 x y k).const,.map (some bm)]∧(∃ n' D',n'≤n+12∧MapF w' bm n' D' (kAP (kG6 x y k).terms))∧K2 p bm w w':=by
 obtain ⟨_,rfl,ay,cy,rfl,hsy⟩:=h;obtain ⟨q1,q2,q3,q4,q5,q6⟩:=kBD hy;have hm:=mul_bd hk q5;have hlo:=hok.lo;have hhi:=hok.hi;have HOK:=hJ hok;have HY:=hJ q3;have HYN:=hJ q4;have HK:=hJ hk;have HSY:=hJ hsy;have HPS:=hJ hpS;have hmy:=hsy.small;clear hsy q1 q2 q3 q4 hok hy hpS;generalize hny:y.terms.length=m at *;have HNY:=hJ hny;have hmul1: -9223372036854775808≤k * y.const:=by omega
 have hmul2:k * y.const≤9223372036854775807:=by omega
 have hadd1: -9223372036854775808≤x.const+k * y.const:=by omega
 have hadd2:x.const+k * y.const≤9223372036854775807:=by omega
 have hw1:IntKind.i64.wrap (k * y.const)=k * y.const:=by rw [IntKind.wrap_i64];omega
 have hw2:IntKind.i64.wrap (x.const+k * y.const)=x.const+k * y.const:=by rw [IntKind.wrap_i64];omega
 clear hny;obtain ⟨B0,ya,hW0⟩:=box1 w 49 [.int .i64 y.const,.slice ay m cy];have xa0:=box0 ya 0 _ rfl;have xa1:=box0 ya 1 _ rfl;have bka:Bx _ _ _ _:=ya;clear ya;have hp:=hBx.lt;have hbm:=hM.lt;have HX:=hJ (hBx.below B0.out hBx.lt);have HM:=hJ (hM.kept B0.out);clear bka hBx hM;go_enter func191,ntmps191
 go_wp2_with fail
 generalize (w.alloc (.cells #[.int .i64 y.const,.slice ay m cy] 49))=W at *;have p0:=HX.out.cell 0 _ rfl;have p1:=HX.out.cell 1 _ rfl;have f0:=HX.out.fz 0;have hne:p≠w.heap.size:=by omega
 go_region
 have HX1:Hid (Bx (W.setCell ⟨p,0,none⟩ (.int .i64 (x.const+k * y.const))).drew p 143 [.int .i64 (x.const+k * y.const),.map (some bm)]):=hJ (HX.out.set 0 _).drew;have HM1:Hid (MapF (W.setCell ⟨p,0,none⟩ (.int .i64 (x.const+k * y.const))).drew bm n D (kAP x.terms)):=hJ ((HM.out.setCell (a:=⟨p,0,none⟩) hpb _).kept (Below.refl _ _).drew);have HK1:Hid (K2 p bm W (W.setCell ⟨p,0,none⟩ (.int .i64 (x.const+k * y.const))).drew):=hJ ((K2.set W 0 _).trans (K2.of_below (Below.refl _ _).drew));have x1:(W.setCell ⟨p,0,none⟩ (.int .i64 (x.const+k * y.const))).cell? ⟨w.heap.size,1,none⟩=some (.slice ay m cy):=(World.cell?_setCell_far _ _ _ _ (by simp only [ne_eq];omega)).trans xa1;have x1d:(W.setCell ⟨p,0,none⟩ (.int .i64 (x.const+k * y.const))).drew.cell? ⟨w.heap.size,1,none⟩=some (.slice ay m cy):=x1;clear xa0 p0 p1 f0
 go_wp2_with fail
 generalize (W.setCell ⟨p,0,none⟩ (.int .i64 (x.const+k * y.const))).drew=W1 at *;clear x1 x1d
 go_loopw [22] (fun i wr=>∃ j:Nat,j≤m∧i= .int .i64 j∧Hid (Bx wr p 143 [.int .i64 (x.const+k * y.const),.map (some bm)])∧Hid (∃ D',MapF wr bm (n+j) D' (kAP (kC7 x.terms (y.terms.take j) k)))∧Hid (K2 p bm W wr)) (fun i _=>m - (intOf i).toNat)
 case atStart=>exact ⟨0,Nat.zero_le _,rfl,HX1,hJ ⟨D,HM1.out⟩,HK1⟩
 case round =>
  obtain ⟨j,hj,rfl,HX,HMM,HK2⟩:=hrel;obtain ⟨D',hM'⟩:=HMM.out;have HM:=hJ hM';clear hM' HMM;by_cases hlt:j<m
  · obtain ⟨b,off,rfl,hbW,hSb⟩:=HSY.out.form j hlt
    have hbp:=HPS.out b hSb;obtain ⟨c0,c1⟩:=(HSY.out.below B0.out).coef j hlt;have hbl:b<W.heap.size:=by omega
    have e0:wr.cell? ⟨b,off+j * 2,none⟩=some (.string (y.terms.getD j default).v):=kDF c0 (fun _=>HK2.out.block b hbl hbp.1 hbp.2);have e1:wr.cell? ⟨b,off+j * 2+1,none⟩=some (.int .i64 (y.terms.getD j default).c):=kDF c1 (fun _=>HK2.out.block b hbl hbp.1 hbp.2);have HKl:Hid (j<y.terms.length):=hJ (by rw [HNY.out];exact hlt);have HStep:=hJ (fun v=>timesT_coef (l:=x.terms) (k:=k) HKl.out HOK.out.srt v);have hct:=HY.out _ (kAJ HKl.out);have hc1:=mul_bd HK.out hct;have hnm:(y.terms.getD j default).v.size≤maxLen:=Nat.le_trans (kCP (HYN.out _ (kAJ HKl.out))) (by decide)
    have hTb: -9223372036854775808≤kAP (kC7 x.terms (y.terms.take j) k) (y.terms.getD j default).v+k * (y.terms.getD j default).c∧kAP (kC7 x.terms (y.terms.take j) k) (y.terms.getD j default).v+k * (y.terms.getD j default).c≤9223372036854775807:=by
     have h1:=kGL (by omega) (times_bd (y.terms.take j) k HK.out (fun t ht=>HY.out t (List.mem_of_mem_take ht)) x.terms ((n0:Int) * 12000000000000) (by omega) HOK.out.srt HOK.out.bd) (y.terms.getD j default).v;rw [List.length_take] at h1;omega
    have hv1:IntKind.i64.wrap (k * (y.terms.getD j default).c)=k * (y.terms.getD j default).c:=by rw [IntKind.wrap_i64];omega
    have hv2:IntKind.i64.wrap (kAP (kC7 x.terms (y.terms.take j) k) (y.terms.getD j default).v+k * (y.terms.getD j default).c)=kAP (kC7 x.terms (y.terms.take j) k) (y.terms.getD j default).v+k * (y.terms.getD j default).c:=by rw [IntKind.wrap_i64];omega
    clear c0 c1 hct hc1;generalize kC7 x.terms (y.terms.take j) k=tl at *;generalize y.terms.getD j default=t at *;have p1:=HX.out.cell 1 _ rfl;have hpw:=HX.out.lt
    go_wp2_with fail
    have HMx:Hid (MapF (wr.alloc (.cells #[.string t.v,.int .i64 t.c] 46)).drew bm (n+j) D' (kAP tl)):=hJ ((HM.out.kept ((Below.refl _ _).alloc (Nat.le_refl _) _)).kept (Below.refl _ _).drew);obtain ⟨w6,D6,hr6,hM6,hg6⟩:=HMx.out.put (by unfold maxLen;omega) t.v hnm (kAP tl t.v+k * t.c) hTb;have HM6:=hJ hM6;have hl6:=HMx.out.look t.v hnm;have HG6:=hJ (K2.of_grown (p:=p) hg6);have hX0:Bx (wr.alloc (.cells #[.string t.v,.int .i64 t.c] 46)).drew p 143 [.int .i64 (x.const+k * y.const),.map (some bm)]:=(HX.out.alloc _).drew;have HX6:Hid (Bx w6 p 143 [.int .i64 (x.const+k * y.const),.map (some bm)]):=hJ ((hg6.block p hX0.lt (fun e=>hpb (by cases e;rfl))).trans hX0);have hT0:Bx (wr.alloc (.cells #[.string t.v,.int .i64 t.c] 46)).drew wr.heap.size 46 [.string t.v,.int .i64 t.c]:=(Bx.fresh _ _ _).drew;have hbmw:=HM.out.lt;have HT6:Hid (Bx w6 wr.heap.size 46 [.string t.v,.int .i64 t.c]):=hJ ((hg6.block _ hT0.lt (fun e=>by cases e;omega)).trans hT0);have s1:=HX6.out.cell 1 _ rfl;have s2:=HT6.out.cell 0 _ rfl;have s3:=HT6.out.cell 1 _ rfl;clear hM6 hg6 hX0 hT0 e0 e1
    go_region_held3 (fun w'=>w'.cell? ⟨p,1,none⟩=some (.map (some bm))∧w'.cell? ⟨wr.heap.size,0,none⟩=some (.string t.v)∧w'.cell? ⟨wr.heap.size,1,none⟩=some (.int .i64 t.c)) (first | exact ⟨s1,s2,s3⟩ | go_keep) (fail)
    have HKN:Hid (K2 p bm W w6):=hJ (HK2.out.trans ((K2.of_below ((Below.refl _ _).alloc (Nat.le_refl _) (.cells #[.string t.v,.int .i64 t.c] 46))).trans ((K2.of_below (Below.refl _ _).drew).trans HG6.out)));have HMN:Hid (∃ D',MapF w6 bm (n+(j+1)) D' (kAP (kC7 x.terms (y.terms.take (j+1)) k))):=hJ ⟨D6,HM6.out.own,fun s=>by rw [HStep.out s];exact HM6.out.at_ s⟩
    go_wp2_with fail
    go_roundw
    case rel=>exact ⟨j+1,by omega,by go_num,HX6,HMN,HKN⟩
    case measure=>simp [intOf];omega
  · obtain rfl:j=m:=by omega
    have HEnd:Hid (y.terms.take j=y.terms):=hJ (List.take_of_length_le (by rw [HNY.out];exact Nat.le_refl _))
    go_wp2_with fail
    go_end0;exact ⟨rfl,HX.out,⟨n+j,D',by omega,by have:=HM.out;rw [HEnd.out] at this;exact this⟩,(K2.of_below B0.out).trans HK2.out⟩
open Go.RowKit Go.Maps
theorem bl_lt:∀ x y:List UInt8,Op.bytesLess x y=true ↔ x<y
 | [],[]=>by simp [Op.bytesLess]
 | [],_ :: _=>by simp [Op.bytesLess]
 | _ :: _,[]=>by simp [Op.bytesLess]
 | a :: x,b :: y=>by
   rw [List.cons_lt_cons_iff,← bl_lt x y];simp [Op.bytesLess]
def mkS (b:List UInt8):Str:=⟨b.toArray⟩
theorem mkS_list (b:List UInt8):(mkS b).toList=b:=by rw [ByteArray.toList_eq];rfl
theorem mkS_of (s:Str):mkS s.data.toList=s:=rfl
theorem slt_mkS (a b:List UInt8):slt (mkS a) (mkS b)=true ↔ a<b:=by
 unfold slt;rw [mkS_list,mkS_list];exact bl_lt a b
def kI0 (f:Str→Int) (b:List UInt8):Coef:=⟨mkS b,f (mkS b)⟩
theorem coefAt_terms (f:Str→Int) (v:Str):∀ l:List (List UInt8),kAP (l.map (kI0 f)) v=if v.data.toList ∈ l then f v else 0
 | []=>by simp [kAP]
 | b :: l=>by
   rw [List.map_cons];unfold kAP
   show (if seq (mkS b) v then f (mkS b) else kAP (l.map (kI0 f)) v)=_
   by_cases h:seq (mkS b) v=true
   · have e:=(kA3 _ _).1 h
     rw [if_pos h,e,if_pos];rw [← e];exact List.mem_cons_self ..
   · rw [if_neg h,coefAt_terms f v l]
     have hne:v.data.toList≠b:=fun e=>h ((kA3 _ _).2 (by rw [← e];rfl))
     by_cases hm:v.data.toList ∈ l
     · rw [if_pos hm,if_pos (List.mem_cons_of_mem _ hm)]
     · rw [if_neg hm,if_neg (fun q=>by rcases List.mem_cons.1 q with q | q;exact hne q;exact hm q)]
theorem sorted_strict {ss:List (List UInt8)} (h:ss.Nodup):(ss.mergeSort leB).Pairwise (fun a b=>a<b):=by
 have tr:∀ a b c:List UInt8,leB a b=true→leB b c=true→leB a c=true:=fun a b c h1 h2=>by simp only [leB,decide_eq_true_eq] at *;exact List.le_trans h1 h2
 have tot:∀ a b:List UInt8,(leB a b || leB b a)=true:=fun a b=>by simp only [leB,Bool.or_eq_true,decide_eq_true_eq];exact List.le_total a b
 have h1:=List.pairwise_mergeSort tr tot ss;have h2:(ss.mergeSort leB).Nodup:=(List.mergeSort_perm ss leB).nodup_iff.2 h;refine List.Pairwise.imp₂ (fun a b hab hne=>?_) h1 h2;simp only [leB,decide_eq_true_eq] at hab;by_cases q:a<b
 · exact q
 · exact absurd (List.le_antisymm hab (List.not_lt.1 q)) hne
theorem terms_of {x:Lin} (hs:Srt x.terms) (hn:Nz x.terms) {ss:List (List UInt8)} (hnd:ss.Nodup) (hm:∀ b,b ∈ ss ↔ kAP x.terms (mkS b)≠0):(ss.mergeSort leB).map (kI0 (kAP x.terms))=x.terms:=by
 have hmem:∀ b,b ∈ ss.mergeSort leB ↔ b ∈ ss:=fun b=>(List.mergeSort_perm ss leB).mem_iff
 refine srt_ext _ _ ?_ hs ?_ hn (fun v=>?_)
 · refine List.pairwise_map.2 ((sorted_strict hnd).imp fun {a b} h=>?_)
   exact (slt_mkS a b).2 h
 · intro t ht
   obtain ⟨b,hb,rfl⟩:=List.mem_map.1 ht;exact (hm b).1 ((hmem b).1 hb)
 · rw [coefAt_terms]
   by_cases h:v.data.toList ∈ ss.mergeSort leB
   · rw [if_pos h]
   · rw [if_neg h]
     by_cases hz:kAP x.terms v=0
     · exact hz.symm
     · exact absurd ((hmem _).2 ((hm _).2 (by rw [mkS_of];exact hz))) h
theorem has_of_nz {D:DataW Unit} (hD:∃ es,D= .map es) {k:Lit} {c:Int} (h:D.atKey k (.lit (.int .i64 0))= .lit (.int .i64 c)) (hc:c≠0):has D k=true:=by
 obtain ⟨es,rfl⟩:=hD;rw [has_eq,List.any_eq_true];cases hf:es.find? (fun p=>p.1.sameKey k) with
 | none =>
   simp only [DataW.atKey,hf] at h
   injection h with h
   injection h with _ h
   exact absurd h.symm hc
 | some p=>exact ⟨p,List.mem_of_find?_eq_some hf,by simpa using List.find?_some hf⟩
end Go.Proofs.YtdjggkiagmlfpaaGreatDoor
