/- The claim's texts, part V6: contracts of the functions that the statement reaches, and what they say of the data. -/
import Derived.Test.YtkndimjghfomcaaGreatDoorV5
set_option maxRecDepth 100000
set_option maxHeartbeats 8000000
set_option linter.all false
namespace Go.Proofs.YtkndimjghfomcaaGreatDoor
open Go.Proofs.Tryz
open Go.RowKit
theorem kHN {S:Blk} {x:Bnd} {cs:List Value} {w:World} (h:RBnd.rd S w cs x) (hz:szB x) :
 Calls Tryz.prog 111 #[.agg cs.toArray] w fun e w'=>e= .returned (.bool (kBB x))∧Below w.heap.size w w':=by
 obtain ⟨t,d,rfl,⟨a,c,rfl,ht⟩,⟨a2,c2,rfl,hd⟩⟩:=h
 have HL:Hid (∀ W,Below w.heap.size w W→Calls Tryz.prog 52 #[.agg #[.int .i64 x.dim.const,.slice a x.dim.terms.length c]] W fun e w'=>e= .returned (.bool (kAB x.dim))∧Below W.heap.size W w') :=
  hJ (fun W hW=>kHP (S:=S) x.dim a _ c W (ht.below hW) hz.2.2.1)
 have HH:Hid (∀ W,Below w.heap.size w W→Calls Tryz.prog 57 #[.agg #[.string x.row.row,.slice a2 x.row.dims.length c2]] W fun e w'=>e= .returned (.bool (kAG x.row))∧Below W.heap.size W w') :=
  hJ (fun W hW=>kEE (S:=S) (s:=x.row) (cs:=[.string x.row.row,.slice a2 x.row.dims.length c2]) ⟨_,rfl,a2,c2,rfl,hd.below hW⟩ hz.2.2.2)
 have HZ:Hid (∀ W,Below w.heap.size w W→Calls Tryz.prog 167 #[.agg #[.int .i64 x.dim.const,.slice a x.dim.terms.length c]] W fun e w'=>e= .returned (.bool (x.dim.const==0 && ((x.dim.terms.length:Int)==0)))∧Below W.heap.size W w') :=
  hJ (fun W hW=>by
   have:=ref11_zero (x:=x.dim) (S:=S) (w:=W) (cs:=[.int .i64 x.dim.const,.slice a x.dim.terms.length c]) ⟨_,rfl,a,c,rfl,ht.below hW⟩
   have e:zeroL x.dim=(x.dim.const==0 && ((x.dim.terms.length:Int)==0)):=by
    unfold zeroL
    congr 1
    rw [Bool.eq_iff_iff,beq_iff_eq,beq_iff_eq];omega
   rwa [e] at this)
 have HN:=hJ (fun (W:World)=>kCC x.v W hz.1);have HV:=hJ (fun (W:World)=>kC0 x.v hz.1 W);have HW2:=hJ (fun (W:World)=>kGV x.elem hz.2.1 W);have hm1:=ht.small;have hm2:=hd.small;have hvz:=hz.1;have hez:=hz.2.1;have HRo:=hJ (bnd_val x);clear ht hd hz;generalize kBB x=res at *;generalize kAB x.dim=bl at *;generalize kAG x.row=bh at *;generalize kCY x.elem=be at *;obtain ⟨kind,v,dim,row,elem⟩:=x;simp only at *;generalize dim.terms.length=n at *;generalize row.dims.length=m at *;generalize dim.const=dc at *;generalize row.row=rr at *;obtain ⟨B0,ya,hW0⟩:=box1 w 47 [.int .i64 kind,.string v,.int .i64 dc,.slice a n c,.string rr,.slice a2 m c2,.string elem];have xa0:=box0 ya 0 _ rfl;have xa1:=box0 ya 1 _ rfl;have xa2:=box0 ya 2 _ rfl;have xa3:=box0 ya 3 _ rfl;have xa4:=box0 ya 4 _ rfl;have xa5:=box0 ya 5 _ rfl;have xa6:=box0 ya 6 _ rfl;clear ya;obtain ⟨D,hD⟩:∃ D:Bool,D=(dc==0 && ((n:Int)==0)):=⟨_,rfl⟩
 obtain ⟨R,hR⟩:∃ R:Bool,R=(rr.toList.isEmpty && ((m:Int)==0)):=⟨_,rfl⟩
 have HRr:=hJ hR;rw [← hD] at HZ;rw [← hD,← hR] at HRo;clear hD hR;go_enter func111,ntmps111
 go_upto_region 1 with fail
 generalize (w.alloc (.cells #[.int .i64 kind,.string v,.int .i64 dc,.slice a n c,.string rr,.slice a2 m c2,.string elem] 47))=W at *
 go_cut [3] (fun v W9=>v= .bool (!R)∧W=W9)
 case first =>
  clear HN HV HW2 HL HH HRo HZ;cases g1:rr.toList.isEmpty with
  | false =>
    go_wp2_with fail
    go_meet
    exact ⟨by rw [HRr.out,g1];rfl,rfl⟩
  | true =>
    rcases Nat.eq_zero_or_pos m with g2 | g2
    · have q:decide (0<(m:Int))=false:=decide_eq_false (by omega)
      have q2:((m:Int)==0)=true:=beq_iff_eq.2 (by omega);have q3:decide (0<m)=false:=decide_eq_false (by omega);clear g2
      go_wp2_with fail
      go_meet
      exact ⟨by rw [HRr.out,g1,q2];rfl,rfl⟩
    · have q:decide (0<(m:Int))=true:=decide_eq_true (by omega)
      have q2:((m:Int)==0)=false:=by rw [Bool.eq_false_iff];intro e;have:=beq_iff_eq.1 e;omega
      have q3:decide (0<m)=true:=decide_eq_true (by omega);clear g2
      go_wp2_with fail
      go_meet
      exact ⟨by rw [HRr.out,g1,q2];rfl,rfl⟩
 case rest =>
 obtain ⟨rfl,rfl⟩:=hcut;have HBw:=hJ (B0.out);clear HRr;by_cases k1:kind=1
 · subst k1
   have HR:Hid (res=(kAW v && (bl && (R && elem.toList.isEmpty)))):=hJ (by rw [HRo.out,if_pos rfl]);clear HRo HH HV HW2 HZ;have HN1:=hJ (HN.out W);clear HN;cases hn:kAW v with
   | false =>
     rw [hn] at HN1 HR
     go_wp2_with fail
     refine (HN1.out).mono ?_;rintro e _ ⟨rfl,rfl⟩
     go_wp2_with fail
     go_ret;exact ⟨by rw [HR.out];rfl,HBw.out⟩
   | true =>
     rw [hn] at HN1 HR
     go_wp2_with fail
     refine (HN1.out).mono ?_;rintro e _ ⟨rfl,rfl⟩
     go_wp2_with fail
     refine (HL.out _ HBw.out).mono ?_;rintro e w2 ⟨rfl,hb2⟩;have z6:=kAF xa6 _ hb2;have hW2:=HBw.out.trans (hb2.mono HBw.out.size);cases bl with
     | false =>
       go_wp2_with fail
       go_ret;exact ⟨by rw [HR.out];rfl,hW2⟩
     | true =>
       cases R with
       | false =>
         go_wp2_with fail
         go_ret;exact ⟨by rw [HR.out];rfl,hW2⟩
       | true =>
         go_wp2_with fail
         go_ret;exact ⟨by rw [HR.out];rfl,hW2⟩
 by_cases k2:kind=2
 · subst k2
   have HR:Hid (res=(kAW v && (bh && (D && elem.toList.isEmpty)))):=hJ (by rw [HRo.out,if_neg (by decide),if_pos rfl]);clear HRo HL HV HW2 k1;have HN1:=hJ (HN.out W);clear HN;cases hn:kAW v with
   | false =>
     rw [hn] at HN1 HR
     go_wp2_with fail
     refine (HN1.out).mono ?_;rintro e _ ⟨rfl,rfl⟩
     go_wp2_with fail
     go_ret;exact ⟨by rw [HR.out];rfl,HBw.out⟩
   | true =>
     rw [hn] at HN1 HR
     go_wp2_with fail
     refine (HN1.out).mono ?_;rintro e _ ⟨rfl,rfl⟩
     go_wp2_with fail
     refine (HH.out _ HBw.out).mono ?_;rintro e w2 ⟨rfl,hb2⟩;have hW2:=HBw.out.trans (hb2.mono HBw.out.size);have y2:=kAF xa2 _ hb2;have y3:=kAF xa3 _ hb2;have y6:=kAF xa6 _ hb2;clear xa0 xa1 xa2 xa3 xa4 xa5 xa6;cases bh with
     | false =>
       go_wp2_with fail
       go_ret;exact ⟨by rw [HR.out];rfl,hW2⟩
     | true =>
       go_wp2_with fail
       refine (HZ.out _ hW2).mono ?_;rintro e w3 ⟨rfl,hb3⟩;have z6:=kAF y6 _ hb3;have hW3:=hW2.trans (hb3.mono hW2.size);cases D with
       | false =>
         go_wp2_with fail
         go_ret;exact ⟨by rw [HR.out];rfl,hW3⟩
       | true =>
         go_wp2_with fail
         go_ret;exact ⟨by rw [HR.out];rfl,hW3⟩
 by_cases k3:kind=3
 · subst k3
   have HR:Hid (res=(kAN v && (be && (D && R)))):=hJ (by rw [HRo.out,if_neg (by decide),if_neg (by decide),if_pos rfl]);clear HRo HL HH HN k1 k2;have HV1:=hJ (HV.out W);have HE1:=hJ (HW2.out W);clear HV HW2;cases hv:kAN v with
   | false =>
     rw [hv] at HV1 HR
     go_wp2_with fail
     refine (HV1.out).mono ?_;rintro e _ ⟨rfl,rfl⟩
     go_wp2_with fail
     go_ret;exact ⟨by rw [HR.out];rfl,HBw.out⟩
   | true =>
     rw [hv] at HV1 HR
     go_wp2_with fail
     refine (HV1.out).mono ?_;rintro e _ ⟨rfl,rfl⟩
     go_wp2_with fail
     cases be with
     | false =>
       refine (HE1.out).mono ?_;rintro e _ ⟨rfl,rfl⟩
       go_wp2_with fail
       go_ret;exact ⟨by rw [HR.out];rfl,HBw.out⟩
     | true =>
       refine (HE1.out).mono ?_;rintro e _ ⟨rfl,rfl⟩
       go_wp2_with fail
       refine (HZ.out _ HBw.out).mono ?_;rintro e w3 ⟨rfl,hb3⟩;have hW3:=HBw.out.trans (hb3.mono HBw.out.size);cases D with
       | false =>
         go_wp2_with fail
         go_ret;exact ⟨by rw [HR.out];rfl,hW3⟩
       | true =>
         go_wp2_with fail
         go_ret;exact ⟨by rw [HR.out];rfl,hW3⟩
 · have HR:Hid (res=false):=hJ (by rw [HRo.out,if_neg k1,if_neg k2,if_neg k3])
   clear HRo
   go_wp2_with fail
   go_ret;exact ⟨by rw [HR.out];rfl,B0.out⟩
theorem binds_bad {l:List Bnd} {k:Nat} (hk:k<l.length) (h:kBB (l.getD k default)=false∨0≤kAU (l.take k) (l.getD k default).kind (l.getD k default).v):kAO l=false:=by
 unfold kAO;rw [List.all_eq_false];refine ⟨k,List.mem_range.2 hk,?_⟩;unfold bndOk;rw [Bool.and_eq_true,decide_eq_true_eq];rintro ⟨h1,h2⟩;rcases h with h | h
 · rw [h] at h1;cases h1
 · omega
theorem binds_good {l:List Bnd} (h:∀ i,i<l.length→bndOk l i=true):kAO l=true:=by
 unfold kAO;rw [List.all_eq_true];exact fun i hi=>h i (List.mem_range.1 hi)
theorem bndOk_mk {l:List Bnd} {k:Nat} (h1:kBB (l.getD k default)=true) (h2:kAU (l.take k) (l.getD k default).kind (l.getD k default).v<0):bndOk l k=true:=by
 unfold bndOk;rw [h1,decide_eq_true h2];rfl
theorem kDX {S:Blk} (l:List Bnd) (a:Option Addr) (n c:Nat) (w:World) (h:Sl RBnd S w a n c l) (hz:∀ x ∈ l,szB x) :
 Calls Tryz.prog 46 #[.slice a n c] w fun e w'=>e= .returned (.bool (kAO l))∧Below w.heap.size w w':=by
 have H:=hJ h;have HZ:=hJ hz;have HL:=hJ h.len;have hn:=h.small;have hcap:=h.cap;clear h hz;go_enter func46,ntmps46
 go_wp2_with fail
 go_loopw [3] (fun i wr=>∃ k:Nat,k≤n∧i= .int .i64 k∧Hid (∀ j,j<k→bndOk l j=true)∧Below w.heap.size w wr) (fun i _=>n - (intOf i).toNat)
 case atStart=>exact ⟨0,Nat.zero_le _,rfl,hJ (fun j hj=>absurd hj (by omega)),Below.refl _ _⟩
 case round =>
  obtain ⟨k,hk,rfl,HT,hB⟩:=hrel;by_cases hlt:k<n
  · obtain ⟨b,off,rfl,hbW,_⟩:=H.out.form k hlt
    have HR:=hJ (H.out.below hB);obtain ⟨t,d,hr,hd,c0,c1,c2,c3,c4,c5,c6⟩:=HR.out.bnd k hlt;have HK:Hid (k<l.length):=hJ (by rw [HL.out];exact hlt);have HC1:=hJ (fun t:Later wr=>kHN (RBnd.below hr t.b) (HZ.out _ (kAJ HK.out)));have HC2:=hJ (fun t:Later wr=>kC9 (l.take k) _ k c t.w ((HR.out.take k hk).below t.b) (l.getD k default).kind (l.getD k default).v);have HBad:=hJ (fun q=>binds_bad HK.out q);have HUp:=hJ (fun q1 q2=>upto HT.out (p:=fun j=>bndOk l j=true) (bndOk_mk q1 q2));have c0:=Later.cell c0;have c1:=Later.cell c1;have c2:=Later.cell c2;have c3:=Later.cell c3;have c4:=Later.cell c4;have c5:=Later.cell c5;have c6:=Later.cell c6;clear hr hd;generalize kAU (l.take k) (l.getD k default).kind (l.getD k default).v=q at *;generalize l.getD k default=x at *;cases hv:kBB x with
    | false =>
      rw [hv] at HC1;have HBd:=hJ (HBad.out (.inl hv));clear HBad HUp
      go_wp2_with fail
      refine kAC (by kernel_rfl) (by kernel_rfl) ?_
      repeat (go_big_quiet_step (first | fail | exact Later.call (HC1.out _) | exact Later.same (HC2.out _)))
      refine wpQuiet_nil ?_;rintro _ ⟨t9,rfl⟩
      go_wp2_with fail
      go_ret;exact ⟨by rw [HBd.out];rfl,hB.trans (t9.b.mono hB.size)⟩
    | true =>
      rw [hv] at HC1;by_cases hq:0≤q
      · have hq2:decide (0≤q)=true:=decide_eq_true hq
        have HBd:=hJ (HBad.out (.inr hq));clear HBad HUp
        go_wp2_with fail
        refine kAC (by kernel_rfl) (by kernel_rfl) ?_
        repeat (go_big_quiet_step (first | fail | exact Later.call (HC1.out _) | exact Later.same (HC2.out _)))
        refine wpQuiet_nil ?_;rintro _ ⟨t9,rfl⟩
        go_wp2_with fail
        go_ret;exact ⟨by rw [HBd.out];rfl,hB.trans (t9.b.mono hB.size)⟩
      · have hq2:decide (0≤q)=false:=decide_eq_false hq
        have HUp:=hJ (HUp.out hv (by omega));clear HBad
        go_wp2_with fail
        refine kAC (by kernel_rfl) (by kernel_rfl) ?_
        repeat (go_big_quiet_step (first | fail | exact Later.call (HC1.out _) | exact Later.same (HC2.out _)))
        refine wpQuiet_nil ?_;rintro _ ⟨t9,rfl⟩
        go_wp2_with fail
        go_roundw
        case rel=>exact ⟨k+1,by omega,by go_num,HUp,hB.trans (t9.b.mono hB.size)⟩
        case measure=>simp [intOf];omega
  · have HV:=hJ (binds_good (l:=l) (fun i hi=>HT.out i (by rw [HL.out] at hi;omega)))
    go_wp2_with fail
    go_ret;exact ⟨by rw [HV.out];rfl,hB⟩
theorem kDW {S:Blk} (l:List Bnd) (a:Option Addr) (n c:Nat) (w:World) (h:Sl RBnd S w a n c l) (hz:∀ x ∈ l,szB x) (E:Env w) :
 Calls Tryz.prog 43 #[.slice a n c] w fun e w'=>e= .returned (.bool (kAO l))∧Below w.heap.size w w':=by
 have H:=hJ h;have HZ:=hJ hz;have HL:=hJ h.len;have EE:=hJ E;have hn:=h.small;have hcap:=h.cap;clear h hz E;go_enter func43,ntmps43
 go_wp2_with fail
 go_loopw [7] (fun i wr=>∃ k:Nat,k≤n∧i= .int .i64 k∧Hid (∀ j,j<k→bndOk l j=true)∧Below w.heap.size w wr) (fun i _=>n - (intOf i).toNat)
 case atStart=>exact ⟨0,Nat.zero_le _,rfl,hJ (fun j hj=>absurd hj (by omega)),Below.refl _ _⟩
 case round =>
  obtain ⟨k,hk,rfl,HT,hB⟩:=hrel;by_cases hlt:k<n
  · obtain ⟨b,off,rfl,hbW,_⟩:=H.out.form k hlt
    have HR:=hJ (H.out.below hB);obtain ⟨t,d,hr,⟨⟨ta,tc,rfl,htt⟩,⟨da,dc,rfl,hdd⟩⟩,c0,c1,c2,c3,c4,c5,c6⟩:=HR.out.bnd k hlt;have HK:Hid (k<l.length):=hJ (by rw [HL.out];exact hlt);have HBad:=hJ (fun q=>binds_bad HK.out q);have HUp:=hJ (fun q1 q2=>upto HT.out (p:=fun j=>bndOk l j=true) (bndOk_mk q1 q2));have HT:=hJ (HR.out.take k hk);have HRX:=hJ hr;have HC2:=hJ (fun (W:World) (hW:Below wr.heap.size wr W)=>kE8 (l.take k) _ k c W (HT.out.below hW) (l.getD k default).kind (l.getD k default).v);have HC1:=hJ (fun (W:World) (hW:Below wr.heap.size wr W)=>shape_bound_any (RBnd.below HRX.out hW) (HZ.out _ (kAJ HK.out)) (EE.out.below (hB.trans (hW.mono hB.size))));clear hr htt hdd;generalize kAU (l.take k) (l.getD k default).kind (l.getD k default).v=q at *;generalize l.getD k default=x at *
    go_wp2_with fail
    have hA:Below wr.heap.size wr (wr.alloc (.cells #[.int .i64 x.kind,.string x.v,.int .i64 x.dim.const,.slice ta x.dim.terms.length tc,.string x.row.row,.slice da x.row.dims.length dc,.string x.elem] 47)):=(Below.refl _ _).alloc (Nat.le_refl _) _;have e0:(wr.alloc (.cells #[.int .i64 x.kind,.string x.v,.int .i64 x.dim.const,.slice ta x.dim.terms.length tc,.string x.row.row,.slice da x.row.dims.length dc,.string x.elem] 47)).cell? ⟨wr.heap.size,0,none⟩=some (.int .i64 x.kind):=by simp [go_sem]
    have e1:(wr.alloc (.cells #[.int .i64 x.kind,.string x.v,.int .i64 x.dim.const,.slice ta x.dim.terms.length tc,.string x.row.row,.slice da x.row.dims.length dc,.string x.elem] 47)).cell? ⟨wr.heap.size,1,none⟩=some (.string x.v):=by simp [go_sem]
    have e2:(wr.alloc (.cells #[.int .i64 x.kind,.string x.v,.int .i64 x.dim.const,.slice ta x.dim.terms.length tc,.string x.row.row,.slice da x.row.dims.length dc,.string x.elem] 47)).cell? ⟨wr.heap.size,2,none⟩=some (.int .i64 x.dim.const):=by simp [go_sem]
    have e3:(wr.alloc (.cells #[.int .i64 x.kind,.string x.v,.int .i64 x.dim.const,.slice ta x.dim.terms.length tc,.string x.row.row,.slice da x.row.dims.length dc,.string x.elem] 47)).cell? ⟨wr.heap.size,3,none⟩=some (.slice ta x.dim.terms.length tc):=by simp [go_sem]
    have e4:(wr.alloc (.cells #[.int .i64 x.kind,.string x.v,.int .i64 x.dim.const,.slice ta x.dim.terms.length tc,.string x.row.row,.slice da x.row.dims.length dc,.string x.elem] 47)).cell? ⟨wr.heap.size,4,none⟩=some (.string x.row.row):=by simp [go_sem]
    have e5:(wr.alloc (.cells #[.int .i64 x.kind,.string x.v,.int .i64 x.dim.const,.slice ta x.dim.terms.length tc,.string x.row.row,.slice da x.row.dims.length dc,.string x.elem] 47)).cell? ⟨wr.heap.size,5,none⟩=some (.slice da x.row.dims.length dc):=by simp [go_sem]
    have e6:(wr.alloc (.cells #[.int .i64 x.kind,.string x.v,.int .i64 x.dim.const,.slice ta x.dim.terms.length tc,.string x.row.row,.slice da x.row.dims.length dc,.string x.elem] 47)).cell? ⟨wr.heap.size,6,none⟩=some (.string x.elem):=by simp [go_sem]
    clear c0 c1 c2 c3 c4 c5 c6;have hws:wr.heap.size<(wr.alloc (.cells #[.int .i64 x.kind,.string x.v,.int .i64 x.dim.const,.slice ta x.dim.terms.length tc,.string x.row.row,.slice da x.row.dims.length dc,.string x.elem] 47)).heap.size:=by simp
    generalize (wr.alloc (.cells #[.int .i64 x.kind,.string x.v,.int .i64 x.dim.const,.slice ta x.dim.terms.length tc,.string x.row.row,.slice da x.row.dims.length dc,.string x.elem] 47))=w2 at *;have HC1:=hJ (fun t:Later w2=>HC1.out t.w (hA.trans (t.b.mono hA.size)));have HC2:=hJ (fun t:Later w2=>HC2.out t.w (hA.trans (t.b.mono hA.size)));have e0:=Later.cell e0;have e1:=Later.cell e1;have e2:=Later.cell e2;have e3:=Later.cell e3;have e4:=Later.cell e4;have e5:=Later.cell e5;have e6:=Later.cell e6;have hBA:=hJ (hB.trans (hA.mono hB.size));clear hA;cases hv:kBB x with
    | false =>
      rw [hv] at HC1;have HBd:=hJ (HBad.out (.inl hv));clear HBad HUp
      go_wp2_with fail
      refine kAC (by kernel_rfl) (by kernel_rfl) ?_
      repeat (go_big_quiet_step (first | fail | exact Later.call (HC1.out _) | exact Later.call (HC2.out _)))
      refine wpQuiet_nil ?_;rintro _ ⟨t9,rfl⟩
      go_wp2_with fail
      go_ret;exact ⟨by rw [HBd.out];rfl,hBA.out.trans (t9.b.mono hBA.out.size)⟩
    | true =>
      rw [hv] at HC1;by_cases hq:0≤q
      · have hq2:decide (0≤q)=true:=decide_eq_true hq
        have HBd:=hJ (HBad.out (.inr hq));clear HBad HUp
        go_wp2_with fail
        refine kAC (by kernel_rfl) (by kernel_rfl) ?_
        repeat (go_big_quiet_step (first | fail | exact Later.call (HC1.out _) | exact Later.call (HC2.out _)))
        refine wpQuiet_nil ?_;rintro _ ⟨t9,rfl⟩
        go_wp2_with fail
        go_ret;exact ⟨by rw [HBd.out];rfl,hBA.out.trans (t9.b.mono hBA.out.size)⟩
      · have hq2:decide (0≤q)=false:=decide_eq_false hq
        have HUp:=hJ (HUp.out hv (by omega));clear HBad
        go_wp2_with fail
        refine kAC (by kernel_rfl) (by kernel_rfl) ?_
        repeat (go_big_quiet_step (first | fail | exact Later.call (HC1.out _) | exact Later.call (HC2.out _)))
        refine wpQuiet_nil ?_;rintro _ ⟨t9,rfl⟩
        go_wp2_with fail
        go_roundw
        case rel=>exact ⟨k+1,by omega,by go_num,HUp,hBA.out.trans (t9.b.mono hBA.out.size)⟩
        case measure=>simp [intOf];omega
  · have HV:=hJ (binds_good (l:=l) (fun i hi=>HT.out i (by rw [HL.out] at hi;omega)))
    go_wp2_with fail
    go_ret;exact ⟨by rw [HV.out];rfl,hB⟩
def okTy (b:List Bnd) (x:Typ):Bool:=kAE x && kAO b
def okSc (b:List Bnd) (s:Sch):Bool:=kAM s && kAO b
def kFY (b:List Bnd) (x:Typ):Typ:=if okTy b x then kG8 b x else kBN
def subTyE (b:List Bnd) (x:Typ):Int:=if okTy b x then kCD b x.shape else 1
def kF0 (b:List Bnd) (s:Sch):Sch:=if okSc b s then kDV b s else kDT
def kG9 (b:List Bnd) (s:Sch):Int:=if okSc b s then kCE b s else 1
theorem types_Subst_bad {S T:Blk} {x:Typ} {cs:List Value} {w:World} (h:RTyp.rd S w cs x) (hz:szT x) (b:List Bnd) (a:Option Addr) (nb cb:Nat) (hbs:Sl RBnd T w a nb cb b) (hzb:∀ y ∈ b,szB y) (hbad:okTy b x=false) (E:Env w) :
 Calls Tryz.prog 11 #[.agg cs.toArray,.slice a nb cb] w fun e w'=>(∃ ds,e= .returned (.tuple #[.agg ds.toArray,.int .i64 1])∧RTyp.rd (fun k=>w.heap.size≤k) w' ds kBN)∧Below w.heap.size w w':=by
 have HCV:Hid (∀ W,Below w.heap.size w W→Calls Tryz.prog 26 #[.agg cs.toArray] W fun e w'=>e= .returned (.bool (kAE x))∧Below W.heap.size W w'):=hJ (fun W hW=>kCG (RTyp.below h hW) hz (E.below hW));have HCB:Hid (∀ W,Below w.heap.size w W→Calls Tryz.prog 43 #[.slice a nb cb] W fun e w'=>e= .returned (.bool (kAO b))∧Below W.heap.size W w'):=hJ (fun W hW=>kDW b a nb cb W (hbs.below hW) hzb (E.below hW));obtain ⟨t,rfl,ad,cd,rfl,hds⟩:=h;have hmd:=hds.small;have hnb:=hbs.small;clear hds hbs hz hzb E;generalize x.shape.dims.length=nd at *;obtain ⟨B0,ya,yb,hW0⟩:=box2 w 26 [.string x.elem,.string x.shape.row,.slice ad nd cd] 26 [.string ⟨#[]⟩,.string ⟨#[]⟩,.slice none 0 0];have xa0:=box0 ya 0 _ rfl;have xa1:=box0 ya 1 _ rfl;have xa2:=box0 ya 2 _ rfl;have xb0:=box0 yb 0 _ rfl;have xb1:=box0 yb 1 _ rfl;have xb2:=box0 yb 2 _ rfl;have bka:Bx _ _ _ _:=ya;have bkb:Bx _ _ _ _:=yb;clear ya yb;have HR0:=hJ bkb;clear bka bkb;unfold okTy at hbad;generalize kAE x=vt at *;generalize kAO b=vb at *;go_enter func11,ntmps11
 go_wp2_with fail
 refine (HCV.out _ B0.out).mono ?_;rintro e w1 ⟨rfl,hb1⟩;have HW1:=hJ (B0.out.trans (hb1.mono B0.out.size));have HR1:=hJ (HR0.out.below hb1 HR0.out.lt);clear xa0 xa1 xa2 xb0 xb1 xb2 hb1 HR0 B0 HCV;cases vt with
 | false =>
   clear hbad HCB;have HR:=HR1;have HW:=HW1;clear HR1 HW1;have v0:=HR.out.cell 0 _ rfl;have v1:=HR.out.cell 1 _ rfl;have v2:=HR.out.cell 2 _ rfl;have u0:=HR.out.fz 0;have u1:=HR.out.fz 1;have u2:=HR.out.fz 2;have hl3:=HR.out.lt;have HX60:=hJ (((HR.out.set 0 (.string ⟨#[]⟩)).set 1 (.string ⟨#[]⟩)).set 2 (.slice none 0 0));have s0:=HX60.out.cell 0 _ rfl;have s1:=HX60.out.cell 1 _ rfl;have s2:=HX60.out.cell 2 _ rfl
   (try simp only []);repeat (first | go_values | go_skip | go_guarded | go_step | go_upon)
   refine bodyPost_ret (v:=.tuple #[.agg #[.string ⟨#[]⟩,.string ⟨#[]⟩,.slice none 0 0],.int .i64 1]) (by simp [results,results11,go_sem,s0,s1,s2,hl3]) rfl ?_;refine ⟨⟨[.string ⟨#[]⟩,.string ⟨#[]⟩,.slice none 0 0],rfl,⟨_,rfl,none,0,rfl,Sl.empty _ _ _⟩⟩,?_⟩;exact ((HW.out.setCell (by show _≤w.heap.size+1;omega) _).setCell (by show _≤w.heap.size+1;omega) _).setCell (by show _≤w.heap.size+1;omega) _
 | true =>
   obtain rfl:vb=false:=hbad
   go_wp2_with fail
   refine (HCB.out _ HW1.out).mono ?_;rintro e w2 ⟨rfl,hb2⟩;have HW:=hJ (HW1.out.trans (hb2.mono HW1.out.size));have HR:=hJ (HR1.out.below hb2 HR1.out.lt);clear hb2 HR1 HW1 HCB;have v0:=HR.out.cell 0 _ rfl;have v1:=HR.out.cell 1 _ rfl;have v2:=HR.out.cell 2 _ rfl;have u0:=HR.out.fz 0;have u1:=HR.out.fz 1;have u2:=HR.out.fz 2;have hl3:=HR.out.lt;have HX60:=hJ (((HR.out.set 0 (.string ⟨#[]⟩)).set 1 (.string ⟨#[]⟩)).set 2 (.slice none 0 0));have s0:=HX60.out.cell 0 _ rfl;have s1:=HX60.out.cell 1 _ rfl;have s2:=HX60.out.cell 2 _ rfl
   (try simp only []);repeat (first | go_values | go_skip | go_guarded | go_step | go_upon)
   refine bodyPost_ret (v:=.tuple #[.agg #[.string ⟨#[]⟩,.string ⟨#[]⟩,.slice none 0 0],.int .i64 1]) (by simp [results,results11,go_sem,s0,s1,s2,hl3]) rfl ?_;refine ⟨⟨[.string ⟨#[]⟩,.string ⟨#[]⟩,.slice none 0 0],rfl,⟨_,rfl,none,0,rfl,Sl.empty _ _ _⟩⟩,?_⟩;exact ((HW.out.setCell (by show _≤w.heap.size+1;omega) _).setCell (by show _≤w.heap.size+1;omega) _).setCell (by show _≤w.heap.size+1;omega) _
theorem ref12_Subst_bad {S T:Blk} {x:Typ} {cs:List Value} {w:World} (h:RTyp.rd S w cs x) (hz:szT x) (b:List Bnd) (a:Option Addr) (nb cb:Nat) (hbs:Sl RBnd T w a nb cb b) (hzb:∀ y ∈ b,szB y) (hbad:okTy b x=false)  :
 Calls Tryz.prog 12 #[.agg cs.toArray,.slice a nb cb] w fun e w'=>(∃ ds,e= .returned (.tuple #[.agg ds.toArray,.int .i64 1])∧RTyp.rd (fun k=>w.heap.size≤k) w' ds kBN)∧Below w.heap.size w w':=by
 have HCV:Hid (∀ W,Below w.heap.size w W→Calls Tryz.prog 27 #[.agg cs.toArray] W fun e w'=>e= .returned (.bool (kAE x))∧Below W.heap.size W w'):=hJ (fun W hW=>kFO (RTyp.below h hW) hz);have HCB:Hid (∀ W,Below w.heap.size w W→Calls Tryz.prog 46 #[.slice a nb cb] W fun e w'=>e= .returned (.bool (kAO b))∧Below W.heap.size W w'):=hJ (fun W hW=>kDX b a nb cb W (hbs.below hW) hzb);obtain ⟨t,rfl,ad,cd,rfl,hds⟩:=h;have hmd:=hds.small;have hnb:=hbs.small;clear hds hbs hz hzb hnb;generalize x.shape.dims.length=nd at *;obtain ⟨B0,ya,yb,hW0⟩:=box2 w 26 [.string x.elem,.string x.shape.row,.slice ad nd cd] 26 [.string ⟨#[]⟩,.string ⟨#[]⟩,.slice none 0 0];have xa0:=box0 ya 0 _ rfl;have xa1:=box0 ya 1 _ rfl;have xa2:=box0 ya 2 _ rfl;have xb0:=box0 yb 0 _ rfl;have xb1:=box0 yb 1 _ rfl;have xb2:=box0 yb 2 _ rfl;have bka:Bx _ _ _ _:=ya;have bkb:Bx _ _ _ _:=yb;clear ya yb;have HR0:=hJ bkb;clear bka bkb;unfold okTy at hbad;generalize kAE x=vt at *;generalize kAO b=vb at *;go_enter func12,ntmps12
 go_wp2_with fail
 refine (HCV.out _ B0.out).mono ?_;rintro e w1 ⟨rfl,hb1⟩;have HW1:=hJ (B0.out.trans (hb1.mono B0.out.size));have HR1:=hJ (HR0.out.below hb1 HR0.out.lt);clear xa0 xa1 xa2 xb0 xb1 xb2 hb1 HR0 B0 HCV;cases vt with
 | false =>
   clear hbad HCB;have HR:=HR1;have HW:=HW1;clear HR1 HW1;have v0:=HR.out.cell 0 _ rfl;have v1:=HR.out.cell 1 _ rfl;have v2:=HR.out.cell 2 _ rfl;have u0:=HR.out.fz 0;have u1:=HR.out.fz 1;have u2:=HR.out.fz 2;have hl3:=HR.out.lt;have HX60:=hJ (((HR.out.set 0 (.string ⟨#[]⟩)).set 1 (.string ⟨#[]⟩)).set 2 (.slice none 0 0));have s0:=HX60.out.cell 0 _ rfl;have s1:=HX60.out.cell 1 _ rfl;have s2:=HX60.out.cell 2 _ rfl
   (try simp only []);repeat (first | go_values | go_skip | go_guarded | go_step | go_upon)
   refine bodyPost_ret (v:=.tuple #[.agg #[.string ⟨#[]⟩,.string ⟨#[]⟩,.slice none 0 0],.int .i64 1]) (by simp [results,results12,go_sem,s0,s1,s2,hl3]) rfl ?_;refine ⟨⟨[.string ⟨#[]⟩,.string ⟨#[]⟩,.slice none 0 0],rfl,⟨_,rfl,none,0,rfl,Sl.empty _ _ _⟩⟩,?_⟩;exact ((HW.out.setCell (by show _≤w.heap.size+1;omega) _).setCell (by show _≤w.heap.size+1;omega) _).setCell (by show _≤w.heap.size+1;omega) _
 | true =>
   obtain rfl:vb=false:=hbad
   go_wp2_with fail
   refine (HCB.out _ HW1.out).mono ?_;rintro e w2 ⟨rfl,hb2⟩;have HW:=hJ (HW1.out.trans (hb2.mono HW1.out.size));have HR:=hJ (HR1.out.below hb2 HR1.out.lt);clear hb2 HR1 HW1 HCB;have v0:=HR.out.cell 0 _ rfl;have v1:=HR.out.cell 1 _ rfl;have v2:=HR.out.cell 2 _ rfl;have u0:=HR.out.fz 0;have u1:=HR.out.fz 1;have u2:=HR.out.fz 2;have hl3:=HR.out.lt;have HX60:=hJ (((HR.out.set 0 (.string ⟨#[]⟩)).set 1 (.string ⟨#[]⟩)).set 2 (.slice none 0 0));have s0:=HX60.out.cell 0 _ rfl;have s1:=HX60.out.cell 1 _ rfl;have s2:=HX60.out.cell 2 _ rfl
   (try simp only []);repeat (first | go_values | go_skip | go_guarded | go_step | go_upon)
   refine bodyPost_ret (v:=.tuple #[.agg #[.string ⟨#[]⟩,.string ⟨#[]⟩,.slice none 0 0],.int .i64 1]) (by simp [results,results12,go_sem,s0,s1,s2,hl3]) rfl ?_;refine ⟨⟨[.string ⟨#[]⟩,.string ⟨#[]⟩,.slice none 0 0],rfl,⟨_,rfl,none,0,rfl,Sl.empty _ _ _⟩⟩,?_⟩;exact ((HW.out.setCell (by show _≤w.heap.size+1;omega) _).setCell (by show _≤w.heap.size+1;omega) _).setCell (by show _≤w.heap.size+1;omega) _
theorem kF4 {S T:Blk} {s:Sch} {cs:List Value} {w:World} (h:RSch.rd S w cs s) (hz:szS s) (b:List Bnd) (a:Option Addr) (nb cb:Nat) (hbs:Sl RBnd T w a nb cb b) (hzb:∀ y ∈ b,szB y) (hbad:okSc b s=false) (E:Env w) :
 Calls Tryz.prog 13 #[.agg cs.toArray,.slice a nb cb] w fun e w'=>(∃ ds,e= .returned (.tuple #[.agg ds.toArray,.int .i64 1])∧RSch.rd (fun k=>w.heap.size≤k) w' ds kDT)∧Below w.heap.size w w':=by
 have HCV:Hid (∀ W,Below w.heap.size w W→Calls Tryz.prog 30 #[.agg cs.toArray] W fun e w'=>e= .returned (.bool (kAM s))∧Below W.heap.size W w'):=hJ (fun W hW=>kBA (RSch.below h hW) hz (E.below hW));have HCB:Hid (∀ W,Below w.heap.size w W→Calls Tryz.prog 43 #[.slice a nb cb] W fun e w'=>e= .returned (.bool (kAO b))∧Below W.heap.size W w'):=hJ (fun W hW=>kDW b a nb cb W (hbs.below hW) hzb (E.below hW));obtain ⟨_,_,_,rfl,⟨ap,cp,rfl,hps⟩,⟨ar,cr,rfl,hrs⟩,⟨aq,cq,rfl,hqs⟩⟩:=h;have hm1:=hps.small;have hm2:=hrs.small;have hm3:=hqs.small;have hnb:=hbs.small;clear hps hrs hqs hbs hz hzb E;generalize s.params.length=n1 at *;generalize s.result.shape.dims.length=n2 at *;generalize s.wh.length=n3 at *;obtain ⟨B0,ya,yb,hW0⟩:=box2 w 29 [.slice ap n1 cp,.string s.result.elem,.string s.result.shape.row,.slice ar n2 cr,.slice aq n3 cq] 29 [.slice none 0 0,.string ⟨#[]⟩,.string ⟨#[]⟩,.slice none 0 0,.slice none 0 0];have xa0:=box0 ya 0 _ rfl;have xa1:=box0 ya 1 _ rfl;have xa2:=box0 ya 2 _ rfl;have xa3:=box0 ya 3 _ rfl;have xa4:=box0 ya 4 _ rfl;have xb0:=box0 yb 0 _ rfl;have xb1:=box0 yb 1 _ rfl;have xb2:=box0 yb 2 _ rfl;have xb3:=box0 yb 3 _ rfl;have xb4:=box0 yb 4 _ rfl;have bka:Bx _ _ _ _:=ya;have bkb:Bx _ _ _ _:=yb;clear ya yb;have HR0:=hJ bkb;clear bka bkb;unfold okSc at hbad;generalize kAM s=vt at *;generalize kAO b=vb at *;go_enter func13,ntmps13
 go_wp2_with fail
 refine (HCV.out _ B0.out).mono ?_;rintro e w1 ⟨rfl,hb1⟩;have HW1:=hJ (B0.out.trans (hb1.mono B0.out.size));have HR1:=hJ (HR0.out.below hb1 HR0.out.lt);clear xa0 xa1 xa2 xa3 xa4 xb0 xb1 xb2 xb3 xb4 hb1 HR0 B0 HCV;cases vt with
 | false =>
   clear hbad HCB;have HR:=HR1;have HW:=HW1;clear HR1 HW1;have v0:=HR.out.cell 0 _ rfl;have v1:=HR.out.cell 1 _ rfl;have v2:=HR.out.cell 2 _ rfl;have v3:=HR.out.cell 3 _ rfl;have v4:=HR.out.cell 4 _ rfl;have u0:=HR.out.fz 0;have u1:=HR.out.fz 1;have u2:=HR.out.fz 2;have u3:=HR.out.fz 3;have u4:=HR.out.fz 4;have hlr:=HR.out.lt;have HX60:=hJ (((((HR.out.set 0 (.slice none 0 0)).set 1 (.string ⟨#[]⟩)).set 2 (.string ⟨#[]⟩)).set 3 (.slice none 0 0)).set 4 (.slice none 0 0));have s0:=HX60.out.cell 0 _ rfl;have s1:=HX60.out.cell 1 _ rfl;have s2:=HX60.out.cell 2 _ rfl;have s3:=HX60.out.cell 3 _ rfl;have s4:=HX60.out.cell 4 _ rfl
   (try simp only []);repeat (first | go_values | go_skip | go_guarded | go_step | go_upon)
   refine bodyPost_ret (v:=.tuple #[.agg #[.slice none 0 0,.string ⟨#[]⟩,.string ⟨#[]⟩,.slice none 0 0,.slice none 0 0],.int .i64 1]) (by simp [results,results13,go_sem,s0,s1,s2,s3,s4,hlr]) rfl ?_;refine ⟨⟨[.slice none 0 0,.string ⟨#[]⟩,.string ⟨#[]⟩,.slice none 0 0,.slice none 0 0],rfl,(kEL.no w.heap.size _).rd⟩,?_⟩
   repeat (first | exact HW.out | refine Below.setCell ?_ (by show _≤w.heap.size+1;omega) _)
 | true =>
   obtain rfl:vb=false:=hbad
   go_wp2_with fail
   refine (HCB.out _ HW1.out).mono ?_;rintro e w2 ⟨rfl,hb2⟩;have HW:=hJ (HW1.out.trans (hb2.mono HW1.out.size));have HR:=hJ (HR1.out.below hb2 HR1.out.lt);clear hb2 HR1 HW1 HCB;have v0:=HR.out.cell 0 _ rfl;have v1:=HR.out.cell 1 _ rfl;have v2:=HR.out.cell 2 _ rfl;have v3:=HR.out.cell 3 _ rfl;have v4:=HR.out.cell 4 _ rfl;have u0:=HR.out.fz 0;have u1:=HR.out.fz 1;have u2:=HR.out.fz 2;have u3:=HR.out.fz 3;have u4:=HR.out.fz 4;have hlr:=HR.out.lt;have HX60:=hJ (((((HR.out.set 0 (.slice none 0 0)).set 1 (.string ⟨#[]⟩)).set 2 (.string ⟨#[]⟩)).set 3 (.slice none 0 0)).set 4 (.slice none 0 0));have s0:=HX60.out.cell 0 _ rfl;have s1:=HX60.out.cell 1 _ rfl;have s2:=HX60.out.cell 2 _ rfl;have s3:=HX60.out.cell 3 _ rfl;have s4:=HX60.out.cell 4 _ rfl
   (try simp only []);repeat (first | go_values | go_skip | go_guarded | go_step | go_upon)
   refine bodyPost_ret (v:=.tuple #[.agg #[.slice none 0 0,.string ⟨#[]⟩,.string ⟨#[]⟩,.slice none 0 0,.slice none 0 0],.int .i64 1]) (by simp [results,results13,go_sem,s0,s1,s2,s3,s4,hlr]) rfl ?_;refine ⟨⟨[.slice none 0 0,.string ⟨#[]⟩,.string ⟨#[]⟩,.slice none 0 0,.slice none 0 0],rfl,(kEL.no w.heap.size _).rd⟩,?_⟩
   repeat (first | exact HW.out | refine Below.setCell ?_ (by show _≤w.heap.size+1;omega) _)
theorem kF7 {S T:Blk} {s:Sch} {cs:List Value} {w:World} (h:RSch.rd S w cs s) (hz:szS s) (b:List Bnd) (a:Option Addr) (nb cb:Nat) (hbs:Sl RBnd T w a nb cb b) (hzb:∀ y ∈ b,szB y) (hbad:okSc b s=false) (hp:s.params.length≤1000000) :
 Calls Tryz.prog 14 #[.agg cs.toArray,.slice a nb cb] w fun e w'=>(∃ ds,e= .returned (.tuple #[.agg ds.toArray,.int .i64 1])∧RSch.rd (fun k=>w.heap.size≤k) w' ds kDT)∧Below w.heap.size w w':=by
 have HCV:Hid (∀ W,Below w.heap.size w W→Calls Tryz.prog 17 #[.agg cs.toArray] W fun e w'=>e= .returned (.bool (kAM s))∧Below W.heap.size W w'):=hJ (fun W hW=>kC8 (RSch.below h hW) hz hp);have HCB:Hid (∀ W,Below w.heap.size w W→Calls Tryz.prog 46 #[.slice a nb cb] W fun e w'=>e= .returned (.bool (kAO b))∧Below W.heap.size W w'):=hJ (fun W hW=>kDX b a nb cb W (hbs.below hW) hzb);obtain ⟨_,_,_,rfl,⟨ap,cp,rfl,hps⟩,⟨ar,cr,rfl,hrs⟩,⟨aq,cq,rfl,hqs⟩⟩:=h;have hm1:=hps.small;have hm2:=hrs.small;have hm3:=hqs.small;have hnb:=hbs.small;clear hps hrs hqs hbs hz hzb hp;generalize s.params.length=n1 at *;generalize s.result.shape.dims.length=n2 at *;generalize s.wh.length=n3 at *;obtain ⟨B0,ya,yb,hW0⟩:=box2 w 29 [.slice ap n1 cp,.string s.result.elem,.string s.result.shape.row,.slice ar n2 cr,.slice aq n3 cq] 29 [.slice none 0 0,.string ⟨#[]⟩,.string ⟨#[]⟩,.slice none 0 0,.slice none 0 0];have xa0:=box0 ya 0 _ rfl;have xa1:=box0 ya 1 _ rfl;have xa2:=box0 ya 2 _ rfl;have xa3:=box0 ya 3 _ rfl;have xa4:=box0 ya 4 _ rfl;have xb0:=box0 yb 0 _ rfl;have xb1:=box0 yb 1 _ rfl;have xb2:=box0 yb 2 _ rfl;have xb3:=box0 yb 3 _ rfl;have xb4:=box0 yb 4 _ rfl;have bka:Bx _ _ _ _:=ya;have bkb:Bx _ _ _ _:=yb;clear ya yb;have HR0:=hJ bkb;clear bka bkb;unfold okSc at hbad;generalize kAM s=vt at *;generalize kAO b=vb at *;go_enter func14,ntmps14
 go_wp2_with fail
 refine (HCV.out _ B0.out).mono ?_;rintro e w1 ⟨rfl,hb1⟩;have HW1:=hJ (B0.out.trans (hb1.mono B0.out.size));have HR1:=hJ (HR0.out.below hb1 HR0.out.lt);clear xa0 xa1 xa2 xa3 xa4 xb0 xb1 xb2 xb3 xb4 hb1 HR0 B0 HCV;cases vt with
 | false =>
   clear hbad HCB;have HR:=HR1;have HW:=HW1;clear HR1 HW1;have v0:=HR.out.cell 0 _ rfl;have v1:=HR.out.cell 1 _ rfl;have v2:=HR.out.cell 2 _ rfl;have v3:=HR.out.cell 3 _ rfl;have v4:=HR.out.cell 4 _ rfl;have u0:=HR.out.fz 0;have u1:=HR.out.fz 1;have u2:=HR.out.fz 2;have u3:=HR.out.fz 3;have u4:=HR.out.fz 4;have hlr:=HR.out.lt;have HX60:=hJ (((((HR.out.set 0 (.slice none 0 0)).set 1 (.string ⟨#[]⟩)).set 2 (.string ⟨#[]⟩)).set 3 (.slice none 0 0)).set 4 (.slice none 0 0));have s0:=HX60.out.cell 0 _ rfl;have s1:=HX60.out.cell 1 _ rfl;have s2:=HX60.out.cell 2 _ rfl;have s3:=HX60.out.cell 3 _ rfl;have s4:=HX60.out.cell 4 _ rfl
   (try simp only []);repeat (first | go_values | go_skip | go_guarded | go_step | go_upon)
   refine bodyPost_ret (v:=.tuple #[.agg #[.slice none 0 0,.string ⟨#[]⟩,.string ⟨#[]⟩,.slice none 0 0,.slice none 0 0],.int .i64 1]) (by simp [results,results14,go_sem,s0,s1,s2,s3,s4,hlr]) rfl ?_;refine ⟨⟨[.slice none 0 0,.string ⟨#[]⟩,.string ⟨#[]⟩,.slice none 0 0,.slice none 0 0],rfl,(kEL.no w.heap.size _).rd⟩,?_⟩
   repeat (first | exact HW.out | refine Below.setCell ?_ (by show _≤w.heap.size+1;omega) _)
 | true =>
   obtain rfl:vb=false:=hbad
   go_wp2_with fail
   refine (HCB.out _ HW1.out).mono ?_;rintro e w2 ⟨rfl,hb2⟩;have HW:=hJ (HW1.out.trans (hb2.mono HW1.out.size));have HR:=hJ (HR1.out.below hb2 HR1.out.lt);clear hb2 HR1 HW1 HCB;have v0:=HR.out.cell 0 _ rfl;have v1:=HR.out.cell 1 _ rfl;have v2:=HR.out.cell 2 _ rfl;have v3:=HR.out.cell 3 _ rfl;have v4:=HR.out.cell 4 _ rfl;have u0:=HR.out.fz 0;have u1:=HR.out.fz 1;have u2:=HR.out.fz 2;have u3:=HR.out.fz 3;have u4:=HR.out.fz 4;have hlr:=HR.out.lt;have HX60:=hJ (((((HR.out.set 0 (.slice none 0 0)).set 1 (.string ⟨#[]⟩)).set 2 (.string ⟨#[]⟩)).set 3 (.slice none 0 0)).set 4 (.slice none 0 0));have s0:=HX60.out.cell 0 _ rfl;have s1:=HX60.out.cell 1 _ rfl;have s2:=HX60.out.cell 2 _ rfl;have s3:=HX60.out.cell 3 _ rfl;have s4:=HX60.out.cell 4 _ rfl
   (try simp only []);repeat (first | go_values | go_skip | go_guarded | go_step | go_upon)
   refine bodyPost_ret (v:=.tuple #[.agg #[.slice none 0 0,.string ⟨#[]⟩,.string ⟨#[]⟩,.slice none 0 0,.slice none 0 0],.int .i64 1]) (by simp [results,results14,go_sem,s0,s1,s2,s3,s4,hlr]) rfl ?_;refine ⟨⟨[.slice none 0 0,.string ⟨#[]⟩,.string ⟨#[]⟩,.slice none 0 0,.slice none 0 0],rfl,(kEL.no w.heap.size _).rd⟩,?_⟩
   repeat (first | exact HW.out | refine Below.setCell ?_ (by show _≤w.heap.size+1;omega) _)
theorem types_Subst_any {S T:Blk} {x:Typ} {cs:List Value} {w:World} (h:RTyp.rd S w cs x) (hz:szT x) (b:List Bnd) (a:Option Addr) (nb cb:Nat) (hbs:Sl RBnd T w a nb cb b) (hzb:∀ y ∈ b,szB y) (E:Env w) :
 Calls Tryz.prog 11 #[.agg cs.toArray,.slice a nb cb] w fun e w'=>(∃ ds,e= .returned (.tuple #[.agg ds.toArray,.int .i64 (subTyE b x)])∧RTyp.rd All w' ds (kFY b x))∧Below w.heap.size w w':=by
 unfold subTyE kFY;cases ho:okTy b x with
 | true =>
   have h2:=ho;unfold okTy at h2;rw [Bool.and_eq_true] at h2;exact (types_Subst h h2.1 b a nb cb hbs h2.2 E).mono fun e w' ⟨⟨ds,he,hr⟩,hb⟩=>⟨⟨ds,he,RTyp.mono hr (fun _ _ _=>trivial)⟩,hb⟩
 | false=>exact (types_Subst_bad h hz b a nb cb hbs hzb ho E).mono fun e w' ⟨⟨ds,he,hr⟩,hb⟩=>⟨⟨ds,he,RTyp.mono hr (fun _ _ _=>trivial)⟩,hb⟩
theorem ref12_Subst_any {S T:Blk} {x:Typ} {cs:List Value} {w:World} (h:RTyp.rd S w cs x) (hz:szT x) (b:List Bnd) (a:Option Addr) (nb cb:Nat) (hbs:Sl RBnd T w a nb cb b) (hzb:∀ y ∈ b,szB y) :
 Calls Tryz.prog 12 #[.agg cs.toArray,.slice a nb cb] w fun e w'=>(∃ ds,e= .returned (.tuple #[.agg ds.toArray,.int .i64 (subTyE b x)])∧RTyp.rd All w' ds (kFY b x))∧Below w.heap.size w w':=by
 unfold subTyE kFY;cases ho:okTy b x with
 | true =>
   have h2:=ho;unfold okTy at h2;rw [Bool.and_eq_true] at h2;exact (ref12_Subst h h2.1 b a nb cb hbs h2.2).mono fun e w' ⟨⟨ds,he,hr⟩,hb⟩=>⟨⟨ds,he,RTyp.mono hr (fun _ _ _=>trivial)⟩,hb⟩
 | false=>exact (ref12_Subst_bad h hz b a nb cb hbs hzb ho).mono fun e w' ⟨⟨ds,he,hr⟩,hb⟩=>⟨⟨ds,he,RTyp.mono hr (fun _ _ _=>trivial)⟩,hb⟩
theorem kDF {S T:Blk} {s:Sch} {cs:List Value} {w:World} (h:RSch.rd S w cs s) (hz:szS s) (b:List Bnd) (a:Option Addr) (nb cb:Nat) (hbs:Sl RBnd T w a nb cb b) (hzb:∀ y ∈ b,szB y) (E:Env w) :
 Calls Tryz.prog 13 #[.agg cs.toArray,.slice a nb cb] w fun e w'=>(∃ ds,e= .returned (.tuple #[.agg ds.toArray,.int .i64 (kG9 b s)])∧RSch.rd All w' ds (kF0 b s))∧Below w.heap.size w w':=by
 unfold kG9 kF0;cases ho:okSc b s with
 | true =>
   have h2:=ho;unfold okSc at h2;rw [Bool.and_eq_true] at h2;exact (kE1 h h2.1 b a nb cb hbs h2.2 E).mono fun e w' ⟨⟨ds,he,hr⟩,hb⟩=>⟨⟨ds,he,RSch.mono hr.rd (fun _ _ _=>trivial)⟩,hb⟩
 | false=>exact (kF4 h hz b a nb cb hbs hzb ho E).mono fun e w' ⟨⟨ds,he,hr⟩,hb⟩=>⟨⟨ds,he,RSch.mono hr (fun _ _ _=>trivial)⟩,hb⟩
theorem kF8 {S T:Blk} {s:Sch} {cs:List Value} {w:World} (h:RSch.rd S w cs s) (hz:szS s) (b:List Bnd) (a:Option Addr) (nb cb:Nat) (hbs:Sl RBnd T w a nb cb b) (hzb:∀ y ∈ b,szB y) (hp:s.params.length≤1000000) :
 Calls Tryz.prog 14 #[.agg cs.toArray,.slice a nb cb] w fun e w'=>(∃ ds,e= .returned (.tuple #[.agg ds.toArray,.int .i64 (kG9 b s)])∧RSch.rd All w' ds (kF0 b s))∧Below w.heap.size w w':=by
 unfold kG9 kF0;cases ho:okSc b s with
 | true =>
   have h2:=ho;unfold okSc at h2;rw [Bool.and_eq_true] at h2;exact (ref12_SubstScheme h h2.1 b a nb cb hbs h2.2).mono fun e w' ⟨⟨ds,he,hr⟩,hb⟩=>⟨⟨ds,he,hr.rd⟩,hb⟩
 | false=>exact (kF7 h hz b a nb cb hbs hzb ho hp).mono fun e w' ⟨⟨ds,he,hr⟩,hb⟩=>⟨⟨ds,he,RSch.mono hr (fun _ _ _=>trivial)⟩,hb⟩
theorem srt_perm {l l2:List Coef} (h1:Srt l) (h2:Srt l2) (n1:Nz l) (n2:Nz l2) (hp:l.Perm l2):l=l2 :=
 srt_ext l l2 h1 h2 n1 n2 fun v=>by
  by_cases h:∃ t ∈ l,t.v=v
  · obtain ⟨t,ht,rfl⟩:=h
    rw [kDB h1 ht,kDB h2 (hp.mem_iff.1 ht)]
  · have q:∀ t,t ∈ l→seq t.v v=false:=fun t ht=>by
     rw [Bool.eq_false_iff];intro e;exact h ⟨t,ht,(kA5 _ _).1 e⟩
    rw [kCT l v q,kCT l2 v (fun t ht=>q t (hp.mem_iff.2 ht))]
theorem srt_apart {l:List Coef} (h:Srt l):l.Pairwise (fun a b=>a.v≠b.v):=List.Pairwise.imp (fun {a b} q e=>by rw [e,kC7] at q;cases q) h
theorem kGQ {x:Lin} (hx:kAB x=true):kAD [] x=x:=by
 obtain ⟨q1,q2,q3,q4,q5,q6⟩:=kA1 hx;have h:=subRun_ren (b:=[]) (f:=id) (c:=x.const) x.terms [] ⟨x.const,[]⟩ (fun t ht=>⟨rfl,q2 t ht⟩) (srt_apart q1) ⟨rfl,List.Pairwise.nil,fun t ht=>by simp at ht,List.Perm.refl _⟩;rw [List.nil_append] at h;have e:renT id x.terms=x.terms:=by unfold renT;exact (List.map_congr_left (fun t _=>rfl)).trans (List.map_id _)
 have ht:(kAD [] x).terms=x.terms:=srt_perm h.srt q1 h.nz q2 (by have:=h.perm;rwa [e] at this);have hc:(kAD [] x).const=x.const:=h.con
 show (⟨(kAD [] x).const,(kAD [] x).terms⟩:Lin)=⟨x.const,x.terms⟩
 rw [hc,ht]
theorem find_nil (k:Int) (v:Str):kAU [] k v= -1:=rfl
theorem subShp_nil {s:Shp} (hv:kAG s=true):kFJ [] s=s∧kAX [] s=true:=by
 have hr:kBQ [] s=⟨s.row,[]⟩:=by
  unfold kBQ
  split
  · rfl
  · rw [if_neg (by rw [find_nil];decide)]
 obtain ⟨h6,hd⟩:=kBM hv;have e:s.dims.map (kAD [])=s.dims:=(List.map_congr_left (fun d hd'=>kGQ (hd d hd'))).trans (List.map_id _)
 constructor
 · unfold kFJ;rw [hr,e];rfl
 · unfold kAX dimsOk
   rw [hr,Bool.and_eq_true];refine ⟨List.all_eq_true.2 fun d hd'=>?_,decide_eq_true (by show 0+_≤6;omega)⟩;rw [kGQ (hd d hd')];exact hd d hd'
theorem subTyp_nil {t:Typ} (hv:kAE t=true):kAS [] t=t:=by
 unfold kAS kF5;rw [if_neg (by rw [find_nil];decide),(subShp_nil (kHI hv)).1]
theorem subSch_nil {s:Sch} (hv:kAM s=true):kDV [] s=s∧kCE [] s=0:=by
 obtain ⟨h1,h2,h3,h4,h5⟩:=kAV hv
 have ok:kB7 [] s=true:=by
  unfold kB7;rw [hv,show kAO []=true from rfl,(subShp_nil (kHI h4)).2];simp only [Bool.true_and,Bool.and_eq_true];exact ⟨List.all_eq_true.2 fun t ht=>(subShp_nil (kHI (h3 t ht))).2,List.all_eq_true.2 fun x hx=>by rw [kGQ (h5 x hx)];exact h5 x hx⟩
 have e1:s.params.map (kAS [])=s.params:=(List.map_congr_left (fun t ht=>subTyp_nil (h3 t ht))).trans (List.map_id _);have e2:s.wh.map (kAD [])=s.wh:=(List.map_congr_left (fun x hx=>kGQ (h5 x hx))).trans (List.map_id _);unfold kDV kCE;rw [if_pos ok,if_pos ok];refine ⟨?_,rfl⟩;unfold kEW;rw [e1,e2,subTyp_nil h4]
theorem mem_addV {l:List Bnd} {k:Int} {v:Str} {y:Bnd} (h:y ∈ addV l k v):y ∈ l∨(y.kind=k∧y.v=v):=by
 unfold addV at h
 split at h
 · exact .inl h
 · rcases List.mem_append.1 h with q | q
   · exact .inl q
   · rw [List.mem_singleton.1 q];exact .inr ⟨rfl,rfl⟩
theorem mem_addAll {y:Bnd}:∀ (ns:List Str) (l:List Bnd),y ∈ addAll l ns→y ∈ l∨(y.kind=1∧y.v ∈ ns)
 | [],l,h=>.inl h
 | n :: ns,l,h=>by
   rcases mem_addAll ns (addV l 1 n) h with q | q
   · rcases mem_addV q with r | r
     · exact .inl r
     · exact .inr ⟨r.1,by rw [r.2];exact List.mem_cons_self ..⟩
   · exact .inr ⟨q.1,List.mem_cons_of_mem _ q.2⟩
theorem mem_varsV {s:Shp} {y:Bnd} (h:y ∈ kBV s):(y.kind=2∧y.v=s.row∧s.row.toList.isEmpty=false)∨(y.kind=1∧∃ d ∈ s.dims,y.v ∈ kAL d):=by
 unfold kBV at h
 split at h
 · unfold varsS at h
   rcases mem_addAll _ _ h with q | q
   · unfold rowV at q
     split at q
     · simp at q
     · rename_i e
       rcases mem_addV q with r | r
       · simp at r
       · exact .inl ⟨r.1,r.2,by simpa using e⟩
   · obtain ⟨d,hd,hv⟩:=List.mem_flatMap.1 q.2
     exact .inr ⟨q.1,d,hd,hv⟩
 · simp at h
theorem mem_varsTy {t:Typ} {y:Bnd} (h:y ∈ kA6 t):(y.kind=3∧y.v=t.elem∧kAN t.elem=true)∨(y.kind=2∧y.v=t.shape.row∧t.shape.row.toList.isEmpty=false)∨(y.kind=1∧∃ d ∈ t.shape.dims,y.v ∈ kAL d):=by
 unfold kA6 at h
 split at h
 · split at h
   · rename_i e
     rcases mem_addV h with q | q
     · exact .inr (mem_varsV q)
     · exact .inl ⟨q.1,q.2,e⟩
   · exact .inr (mem_varsV h)
 · simp at h
theorem has_dim {s:Shp} (hs:kAG s=true) {d:Lin} (hd:d ∈ s.dims) {n:Str} (hn:n ∈ kAL d):Has (kBV s) 1 n:=by
 unfold kBV;rw [if_pos hs];exact has_in _ _ (List.mem_flatMap.2 ⟨d,hd,hn⟩)
theorem has_row {s:Shp} (hs:kAG s=true) (he:s.row.toList.isEmpty=false):Has (kBV s) 2 s.row:=by
 unfold kBV varsS;rw [if_pos hs];refine has_all _ _ ?_;unfold rowV;rw [if_neg (by rw [he];decide)];exact has_add [] 2 s.row
theorem has_varsTy_row {t:Typ} (h:kAE t=true) (he:t.shape.row.toList.isEmpty=false):Has (kA6 t) 2 t.shape.row:=by
 have hv:=has_row (kHI h) he;unfold kA6;rw [if_pos h]
 split
 · exact hv.add _ _
 · exact hv
theorem has_varsTy_el {t:Typ} (h:kAE t=true) (he:kAN t.elem=true):Has (kA6 t) 3 t.elem:=by
 unfold kA6;rw [if_pos h,if_pos he];exact has_add _ _ _
theorem has_find {l:List Bnd} {k:Int} {v:Str} (h:Has l k v):0≤kAU l k v:=by
 rcases Int.lt_or_le (kAU l k v) 0 with q | q
 · rw [kEH] at q;unfold Has at h;rw [h] at q;cases q
 · exact q
theorem has_right {l m:List Bnd} {k:Int} {v:Str} (h:Has m k v):Has (l++m) k v:=by unfold Has at *;rw [List.any_append,h,Bool.or_true]
theorem plus_in {l:List Coef} (hs:Srt l) {s:Str} {c:Int} {t:Coef} (ht:t ∈ plus l s c):t.v=s∨t ∈ l:=by
 unfold plus at ht;rw [kDK hs] at ht;exact ins_mem s c l t (List.mem_filter.1 ht).1
theorem times_in (x:List Coef) (k:Int):∀ (l:List Coef),Srt l→∀ t ∈ kBD l x k,(∃ u ∈ x,u.v=t.v)∨∃ u ∈ l,u.v=t.v:=by
 induction x with
 | nil=>exact fun l _ t ht=>.inr ⟨t,ht,rfl⟩
 | cons a x ih =>
   intro l hs t ht;rcases ih _ (kFQ hs _ _) t ht with ⟨u,hu,e⟩ | ⟨u,hu,e⟩
   · exact .inl ⟨u,List.mem_cons_of_mem _ hu,e⟩
   · rcases plus_in hs hu with q | q
     · exact .inl ⟨a,List.mem_cons_self ..,by rw [← e,q]⟩
     · exact .inr ⟨u,q,e⟩
theorem subRun_in {b:List Bnd} (c:Int) (ts:List Coef):Srt (kC6 b c ts).terms∧∀ t ∈ (kC6 b c ts).terms,∃ u ∈ ts,t.v ∈ kAL (sub1 b u.v):=by
 suffices H:∀ (ts:List Coef) (acc:Lin) (P:Str→Prop),Srt acc.terms→(∀ t ∈ acc.terms,P t.v)→(∀ u ∈ ts,∀ n ∈ kAL (sub1 b u.v),P n)→Srt (ts.foldl (fun acc t=>kB3 acc (sub1 b t.v) t.c) acc).terms∧∀ t ∈ (ts.foldl (fun acc t=>kB3 acc (sub1 b t.v) t.c) acc).terms,P t.v from
  H ts ⟨c,[]⟩ (fun n=>∃ u ∈ ts,n ∈ kAL (sub1 b u.v)) List.Pairwise.nil (fun t ht=>by simp at ht) (fun u hu n hn=>⟨u,hu,hn⟩)
 intro ts
 induction ts with
 | nil=>exact fun acc P h1 h2 _=>⟨h1,h2⟩
 | cons a ts ih =>
   intro acc P h1 h2 h3;refine ih _ P (kH3 _ _ _ h1) (fun t ht=>?_) (fun u hu=>h3 u (List.mem_cons_of_mem _ hu));rcases times_in _ _ _ h1 t ht with ⟨u,hu,e⟩ | ⟨u,hu,e⟩
   · rw [← e];exact h3 a (List.mem_cons_self ..) u.v (List.mem_map.2 ⟨u,hu,rfl⟩)
   · rw [← e];exact h2 u hu
def fnd1 (t:Typ) (l:List Bnd) (x:Bnd):Bool:=decide (0≤kAU (kA6 t) x.kind x.v) && decide (kAU l x.kind x.v<0)
def kHU (y:Bnd):List Bnd:=kBV y.row++kBV ⟨⟨#[]⟩,[y.dim]⟩
def fnd2 (x y:Bnd):Bool:=decide (0≤kAU (kHU y) x.kind x.v) || (x.kind==3 && (y.elem.toList==x.v.toList))
theorem fnd2_has {x y:Bnd} {k:Int} (hk:x.kind=k) (h:Has (kHU y) k x.v):fnd2 x y=true:=by
 unfold fnd2;rw [hk,decide_eq_true (has_find h)];rfl
theorem fnd1_has {t:Typ} {l:List Bnd} {x:Bnd} {k:Int} (hk:x.kind=k) (h:Has (kA6 t) k x.v) (hn:kAU l k x.v<0):fnd1 t l x=true:=by
 unfold fnd1;rw [hk,decide_eq_true (has_find h),decide_eq_true hn];rfl
theorem bnd_row {l:List Bnd} (hl:kAO l=true) {y:Bnd} (hy:y ∈ l) (hk:y.kind=2):kAG y.row=true:=by
 have:=kDE hl hy;unfold kBB at this;rw [if_neg (by omega),if_pos hk,Bool.and_eq_true,Bool.and_eq_true] at this;exact this.2.1
theorem one_shp {d:Lin} (h:kAB d=true):kAG ⟨⟨#[]⟩,[d]⟩=true:=by
 have e:(⟨#[]⟩:Str).toList.isEmpty=true:=by rw [ByteArray.toList_eq];rfl
 unfold kAG rowB
 show (((⟨#[]⟩:Str).toList.isEmpty || _) && (decide ([d].length≤6) && !([d].any fun x=> !kAB x)))=true
 rw [e];simp [h]
theorem subst_vars {t:Typ} {l:List Bnd} {x:Bnd} (ht:kAE t=true) (hl:kAO l=true) (hx:x ∈ kA6 (kAS l t)):(fnd1 t l x || l.any (fnd2 x))=true:=by
 rw [Bool.or_eq_true,List.any_eq_true];rcases mem_varsTy hx with ⟨hk,hv,he⟩ | ⟨hk,hv,he⟩ | ⟨hk,d,hd,hv⟩
 · have hv:x.v=kF5 l t.elem:=hv
   have he:kAN (kF5 l t.elem)=true:=he;unfold kF5 at hv he;by_cases q:0≤kAU l 3 t.elem
   · rw [if_pos q] at hv
     refine .inr ⟨_,(kG2 q).1,?_⟩;unfold fnd2;rw [hk,← hv];simp
   · rw [if_neg q] at hv he
     refine .inl (fnd1_has hk ?_ (by rw [hv];omega));rw [hv];exact has_varsTy_el ht he
 · have hv:x.v=(kBQ l t.shape).row:=hv
   have he:(kBQ l t.shape).row.toList.isEmpty=false:=he;unfold kBQ at hv he;by_cases q0:t.shape.row.toList.isEmpty=true
   · rw [if_pos q0] at he
     rw [show (⟨t.shape.row,[]⟩:Shp).row=t.shape.row from rfl,q0] at he;cases he
   · rw [if_neg q0] at hv he
     by_cases q:0≤kAU l 2 t.shape.row
     · rw [if_pos q] at hv he
       obtain ⟨hm,hk2⟩:=kG2 q;refine .inr ⟨_,hm,fnd2_has hk (has_app ?_)⟩;rw [hv];exact has_row (bnd_row hl hm hk2) he
     · rw [if_neg q] at hv
       have hv:x.v=t.shape.row:=hv;refine .inl (fnd1_has hk ?_ (by rw [hv];omega));rw [hv];exact has_varsTy_row ht (by simpa using q0)
 · have hd:d ∈ (kBQ l t.shape).dims++t.shape.dims.map (kAD l):=hd
   rcases List.mem_append.1 hd with q | q
   · unfold kBQ at q
     split at q
     · simp at q
     · split at q
       · rename_i q2
         obtain ⟨hm,hk2⟩:=kG2 q2;exact .inr ⟨_,hm,fnd2_has hk (has_app (has_dim (bnd_row hl hm hk2) q hv))⟩
       · simp at q
   · obtain ⟨e,he,rfl⟩:=List.mem_map.1 q
     obtain ⟨u,hu,e2⟩:=List.mem_map.1 hv;obtain ⟨a,ha,hn⟩:=(subRun_in (b:=l) e.const e.terms).2 u hu;rw [e2] at hn;unfold sub1 at hn;by_cases qa:l.any (isB 1 a.v)=true
     · rw [if_pos qa] at hn
       unfold bndL at hn;rw [if_pos qa] at hn;obtain ⟨h1,h2⟩:=kGN qa;have hm:=kAJ h1;have hk1:=(isB_iff.1 h2).1;refine .inr ⟨_,hm,fnd2_has hk (has_right ?_)⟩;exact has_dim (one_shp (kCL hl _ hm hk1)) (List.mem_singleton.2 rfl) hn
     · rw [if_neg qa] at hn
       have hn:x.v ∈ [a.v]:=hn;have hn:=List.mem_singleton.1 hn;refine .inl (fnd1_has hk ?_ ?_)
       · rw [hn];exact has_varsTy ht he (List.mem_map.2 ⟨a,ha,rfl⟩)
       · rw [hn,kEH];simpa using qa
def bigB (x:Bnd):Prop:=strB x.v∧strB x.elem∧bigL x.dim∧(∀ y ∈ x.row.dims,bigL y)∧strB x.row.row
def fewB (x:Bnd):Bool:=decide (x.v.size≤35) && (decide (x.elem.size≤35) && (kDZ x.dim && kDQ x.row))
def fewBs (l:List Bnd):Bool:= !l.any (fun x=> !fewB x) && decide (l.length≤10)
theorem ref11_FewBinds {S:Blk} {l:List Bnd} {a:Option Addr} {n c:Nat} {w:World} (hs:Sl RBnd S w a n c l) (hb:∀ x ∈ l,bigB x) :
 Calls Tryz.prog 10 #[.slice a n c] w fun e w'=>e= .returned (.bool (fewBs l))∧Below w.heap.size w w':=by
 have hm:=hs.small;have HBs:=hJ hb;have HL:=hJ hs.len;have HN:Hid (fewBs l=(!l.any (fun x=> !fewB x) && decide (n≤10))):=hJ (by rw [← hs.len];rfl);have HS:=hJ hs;clear hb hs;go_enter func10,ntmps10
 go_wp2_with fail
 go_loopw [3] (fun i2 wr=>∃ k:Nat,k≤n∧i2= .int .i64 k∧Hid (∀ j,j<k→fewB (l.getD j default)=true)∧Below w.heap.size w wr) (fun i2 _=>n - (intOf i2).toNat)
 case atStart=>exact ⟨0,Nat.zero_le _,rfl,hJ (fun j hj=>absurd hj (by omega)),Below.refl _ _⟩
 case round =>
  obtain ⟨k,hk,rfl,HT,hB⟩:=hrel;by_cases hlt:k<n
  · obtain ⟨b,off,rfl,hbW,_⟩:=HS.out.form k hlt
    have HK:Hid (k<l.length):=hJ (by rw [HL.out];exact hlt);have HR:=hJ (HS.out.below hB);obtain ⟨td,dd,hr,⟨⟨at1,ct1,rfl,hts⟩,⟨ad1,cd1,rfl,hrd⟩⟩,e0,e1,e2,e3,e4,e5,e6⟩:=HR.out.bnd k hlt;have HM:=hJ (HBs.out _ (kAJ HK.out));have HBad:Hid (fewB (l.getD k default)=false→fewBs l=false):=hJ (fun q=>by rw [HN.out,kHX HK.out q];rfl);have HGo:=hJ (fun q=>upto HT.out (p:=fun j=>fewB (l.getD j default)=true) q);have HE:Hid (fewB (l.getD k default)=(decide ((l.getD k default).v.size≤35) && (decide ((l.getD k default).elem.size≤35) && (kDZ (l.getD k default).dim && kDQ (l.getD k default).row)))):=hJ rfl;generalize l.getD k default=y at *;have HC1:=hJ (kF9 (S:=S) (x:=y.dim) (cs:=[.int .i64 y.dim.const,.slice at1 y.dim.terms.length ct1]) (w:=wr) ⟨_,rfl,at1,ct1,rfl,hts⟩ HM.out.2.2.1);have HC2:=hJ (fun (W:World) (hW:Below wr.heap.size wr W)=>ref11_Few (S:=S) (s:=y.row) (cs:=[.string y.row.row,.slice ad1 y.row.dims.length cd1]) (w:=W) (RShp.below ⟨_,rfl,ad1,cd1,rfl,hrd⟩ hW) HM.out.2.2.2.1 HM.out.2.2.2.2);have hvz:y.v.size≤281474976710656:=HM.out.1;have hez:y.elem.size≤281474976710656:=HM.out.2.1;clear hr hts hrd;by_cases h1:y.v.size≤35
    · have q1:decide (35<(y.v.size:Int))=false:=decide_eq_false (by omega)
      by_cases h2:y.elem.size≤35
      · have q2:decide (35<(y.elem.size:Int))=false:=decide_eq_false (by omega)
        cases h3:kDZ y.dim with
        | false =>
          have HF:=hJ (HBad.out (by rw [HE.out,h3,Bool.false_and,Bool.and_false,Bool.and_false]));rw [h3] at HC1;clear h3
          go_wp2_with fail
          refine (HC1.out).mono ?_;rintro e w2 ⟨rfl,hb2⟩
          go_wp2_with fail
          go_ret;exact ⟨by rw [HF.out];rfl,hB.trans (hb2.mono hB.size)⟩
        | true =>
          rw [h3] at HC1;cases h4:kDQ y.row with
          | false =>
            have HF:=hJ (HBad.out (by rw [HE.out,h4,Bool.and_false,Bool.and_false,Bool.and_false]));rw [h4] at HC2;clear h3 h4
            go_wp2_with fail
            refine (HC1.out).mono ?_;rintro e w2 ⟨rfl,hb2⟩;have p4:=kAF e4 _ hb2;have p5:=kAF e5 _ hb2
            go_wp2_with fail
            refine (HC2.out _ hb2).mono ?_;rintro e w3 ⟨rfl,hb3⟩
            go_wp2_with fail
            go_ret;exact ⟨by rw [HF.out];rfl,(hB.trans (hb2.mono hB.size)).trans (hb3.mono (hB.trans (hb2.mono hB.size)).size)⟩
          | true =>
            have HGo:=hJ (HGo.out (by rw [HE.out,h3,h4,decide_eq_true h1,decide_eq_true h2];rfl));rw [h4] at HC2;clear h3 h4
            go_wp2_with fail
            refine (HC1.out).mono ?_;rintro e w2 ⟨rfl,hb2⟩;have p4:=kAF e4 _ hb2;have p5:=kAF e5 _ hb2
            go_wp2_with fail
            refine (HC2.out _ hb2).mono ?_;rintro e w3 ⟨rfl,hb3⟩
            go_wp2_with fail
            go_roundw
            case rel=>exact ⟨k+1,by omega,by go_num,HGo,(hB.trans (hb2.mono hB.size)).trans (hb3.mono (hB.trans (hb2.mono hB.size)).size)⟩
            case measure=>simp [intOf];omega
      · have q2:decide (35<(y.elem.size:Int))=true:=decide_eq_true (by omega)
        have HF:=hJ (HBad.out (by rw [HE.out,decide_eq_false h2,Bool.false_and,Bool.and_false]))
        go_wp2_with fail
        go_ret;exact ⟨by rw [HF.out];rfl,hB⟩
    · have q1:decide (35<(y.v.size:Int))=true:=decide_eq_true (by omega)
      have HF:=hJ (HBad.out (by rw [HE.out,decide_eq_false h1,Bool.false_and]))
      go_wp2_with fail
      go_ret;exact ⟨by rw [HF.out];rfl,hB⟩
  · have HN:Hid (fewBs l=decide (n≤10)):=hJ (by rw [HN.out,kFU (fun j hj=>HT.out j (by rw [HL.out] at hj;omega))];rfl)
    by_cases h8:n≤10
    · have q8:decide ((n:Int)≤10)=true:=decide_eq_true (by omega)
      go_wp2_with fail
      go_ret;exact ⟨by rw [HN.out,decide_eq_true h8];rfl,hB⟩
    · have q8:decide ((n:Int)≤10)=false:=decide_eq_false (by omega)
      go_wp2_with fail
      go_ret;exact ⟨by rw [HN.out,decide_eq_false h8];rfl,hB⟩
theorem varsTy_no {x:Typ} (h:kAE x=false):kA6 x=[]:=by unfold kA6;rw [h];rfl
theorem kH2 {S:Blk} {x:Typ} {cs:List Value} {w:World} (h:RTyp.rd S w cs x) (hz:szT x) (E:Env w) :
 Calls Tryz.prog 18 #[.agg cs.toArray] w fun e w'=>(∃ v,e= .returned v∧Own RBnd 47 (fun _=>False) w' w.heap.size v (kA6 x))∧Below w.heap.size w w':=by
 cases hv:kAE x with
 | true=>exact kG7 h hv E
 | false =>
   rw [varsTy_no hv];have HV:Hid (∀ W,Below w.heap.size w W→Calls Tryz.prog 26 #[.agg cs.toArray] W fun e w'=>e= .returned (.bool (kAE x))∧Below W.heap.size W w'):=hJ (fun W hW=>kCG (RTyp.below h hW) hz (E.below hW));rw [hv] at HV;obtain ⟨t,rfl,a,c,rfl,hs⟩:=h;clear hs hz E hv;obtain ⟨B0,ya,hW0⟩:=box1 w 26 [.string x.elem,.string x.shape.row,.slice a x.shape.dims.length c];have xa0:=box0 ya 0 _ rfl;have xa1:=box0 ya 1 _ rfl;have xa2:=box0 ya 2 _ rfl;clear ya;have HC:=hJ (HV.out _ B0.out);clear HV;go_enter func18,ntmps18
   go_wp2_with fail
   refine (HC.out).mono ?_;rintro e w1 ⟨rfl,hb⟩
   go_wp2_with fail
   go_ret;exact ⟨⟨_,rfl,Own.nil _ _ _ _ _⟩,B0.out.trans (hb.mono B0.out.size)⟩
theorem eqList_len {α :Type} [Inhabited α] {p: α → α →Bool} {l l2:List α} (h:l.length≠l2.length):kBE p l l2=false:=by
 unfold kBE;rw [show (l.length==l2.length)=false from beq_eq_false_iff_ne.2 h];rfl
theorem eqList_bad {α :Type} [Inhabited α] {p: α → α →Bool} {l l2:List α} {k:Nat} (hk:k<l.length) (h:p (l.getD k default) (l2.getD k default)=false):kBE p l l2=false:=by
 unfold kBE;rw [kG5 hk h,Bool.and_false]
theorem eqList_good {α :Type} [Inhabited α] {p: α → α →Bool} {l l2:List α} (hl:l.length=l2.length) (h:∀ j,j<l.length→p (l.getD j default) (l2.getD j default)=true):kBE p l l2=true:=by
 unfold kBE;rw [show (l.length==l2.length)=true from beq_iff_eq.2 hl,kDD h];rfl
theorem allT_len (x:Sch):(allT x).length=x.params.length+1:=by unfold allT;rw [List.length_append];rfl
theorem eqSch_all (x y:Sch):eqSch x y=(kBE kIM (allT x) (allT y) && kBE kCK x.wh y.wh):=by
 rw [Bool.eq_iff_iff,eqSch_iff,Bool.and_eq_true,kD8 _ kIL,kD8 _ kFF];unfold allT
 constructor
 · rintro rfl;exact ⟨rfl,rfl⟩
 · rintro ⟨h1,h2⟩
   have:=List.append_inj' h1 rfl;cases x;cases y
   simp_all
theorem kE9 {S T:Blk} {x y:Sch} {cs ds:List Value} {w:World} (h:RSch.rd S w cs x) (h2:RSch.rd T w ds y) (hnx:x.params.length≤1000000) (hny:y.params.length≤1000000) :
 Calls Tryz.prog 16 #[.agg cs.toArray,.agg ds.toArray] w fun e w'=>e= .returned (.bool (eqSch x y))∧Below w.heap.size w w':=by
 have HCX:Hid (∀ W,Below w.heap.size w W→Calls Tryz.prog 41 #[.agg cs.toArray] W fun e w'=>(∃ v,e= .returned v∧Own RTyp 26 S w' W.heap.size v (allT x))∧Below W.heap.size W w') :=
  hJ (fun W hW=>kF6 (RSch.below h hW) hnx)
 have HCY:Hid (∀ W,Below w.heap.size w W→Calls Tryz.prog 41 #[.agg ds.toArray] W fun e w'=>(∃ v,e= .returned v∧Own RTyp 26 T w' W.heap.size v (allT y))∧Below W.heap.size W w') :=
  hJ (fun W hW=>kF6 (RSch.below h2 hW) hny)
 obtain ⟨_,_,_,rfl,⟨ap,cp,rfl,hp⟩,⟨at_,ct,rfl,ht⟩,⟨aq,cq,rfl,hq⟩⟩:=h;obtain ⟨_,_,_,rfl,⟨ap2,cp2,rfl,hp2⟩,⟨at2,ct2,rfl,ht2⟩,⟨aq2,cq2,rfl,hq2⟩⟩:=h2;have HQ0:=hJ hq;have HQ20:=hJ hq2;have hm:=hq.small;have hm2:=hq2.small;clear hp ht hq hp2 ht2 hq2;have HN:=hJ (eqSch_all x y);have HAX:=hJ (allT_len x);have HAY:=hJ (allT_len y);generalize hn1:x.params.length=n at *;generalize hn2:y.params.length=n2 at *;generalize hl1:x.wh.length=m at *;generalize hl2:y.wh.length=m2 at *;have HL1:=hJ hl1;have HL2:=hJ hl2;clear hn1 hn2 hl1 hl2;by_cases hd:n=n2
 case neg =>
  obtain ⟨B0,ya,yb,hW0⟩:=box2 w 29 [.slice ap n cp,.string x.result.elem,.string x.result.shape.row,.slice at_ x.result.shape.dims.length ct,.slice aq m cq] 29 [.slice ap2 n2 cp2,.string y.result.elem,.string y.result.shape.row,.slice at2 y.result.shape.dims.length ct2,.slice aq2 m2 cq2];have xa0:=box0 ya 0 _ rfl;have xa1:=box0 ya 1 _ rfl;have xa2:=box0 ya 2 _ rfl;have xa3:=box0 ya 3 _ rfl;have xa4:=box0 ya 4 _ rfl;have xb0:=box0 yb 0 _ rfl;have xb1:=box0 yb 1 _ rfl;have xb2:=box0 yb 2 _ rfl;have xb3:=box0 yb 3 _ rfl;have xb4:=box0 yb 4 _ rfl;clear ya yb;have q1:((n:Int) != (n2:Int))=true:=bne_iff_ne.2 (by omega);have HF:Hid (eqSch x y=false):=hJ (by rw [HN.out,eqList_len (by rw [HAX.out,HAY.out];omega)];rfl);go_enter func16,ntmps16
  go_wp2_with fail
  go_ret;exact ⟨by rw [HF.out];rfl,B0.out⟩
 subst hd;by_cases hd2:m=m2
 case neg =>
  obtain ⟨B0,ya,yb,hW0⟩:=box2 w 29 [.slice ap n cp,.string x.result.elem,.string x.result.shape.row,.slice at_ x.result.shape.dims.length ct,.slice aq m cq] 29 [.slice ap2 n cp2,.string y.result.elem,.string y.result.shape.row,.slice at2 y.result.shape.dims.length ct2,.slice aq2 m2 cq2];have xa0:=box0 ya 0 _ rfl;have xa1:=box0 ya 1 _ rfl;have xa2:=box0 ya 2 _ rfl;have xa3:=box0 ya 3 _ rfl;have xa4:=box0 ya 4 _ rfl;have xb0:=box0 yb 0 _ rfl;have xb1:=box0 yb 1 _ rfl;have xb2:=box0 yb 2 _ rfl;have xb3:=box0 yb 3 _ rfl;have xb4:=box0 yb 4 _ rfl;clear ya yb;have q1:((n:Int) != (n:Int))=false:=by simp
  have q2:((m:Int) != (m2:Int))=true:=bne_iff_ne.2 (by omega);have HF:Hid (eqSch x y=false):=hJ (by rw [HN.out,eqList_len (p:=kCK) (by rw [HL1.out,HL2.out];exact hd2),Bool.and_false]);go_enter func16,ntmps16
  go_wp2_with fail
  go_ret;exact ⟨by rw [HF.out];rfl,B0.out⟩
 subst hd2;obtain ⟨B0,ya,yb,hW0⟩:=box2 w 29 [.slice ap n cp,.string x.result.elem,.string x.result.shape.row,.slice at_ x.result.shape.dims.length ct,.slice aq m cq] 29 [.slice ap2 n cp2,.string y.result.elem,.string y.result.shape.row,.slice at2 y.result.shape.dims.length ct2,.slice aq2 m cq2];have xa0:=box0 ya 0 _ rfl;have xa1:=box0 ya 1 _ rfl;have xa2:=box0 ya 2 _ rfl;have xa3:=box0 ya 3 _ rfl;have xa4:=box0 ya 4 _ rfl;have xb0:=box0 yb 0 _ rfl;have xb1:=box0 yb 1 _ rfl;have xb2:=box0 yb 2 _ rfl;have xb3:=box0 yb 3 _ rfl;have xb4:=box0 yb 4 _ rfl;clear ya yb;have q1:((n:Int) != (n:Int))=false:=by simp
 have q2:((m:Int) != (m:Int))=false:=by simp
 go_enter func16,ntmps16
 go_wp2_with fail
 generalize ((w.alloc (.cells #[.slice ap n cp,.string x.result.elem,.string x.result.shape.row,.slice at_ x.result.shape.dims.length ct,.slice aq m cq] 29)).alloc (.cells #[.slice ap2 n cp2,.string y.result.elem,.string y.result.shape.row,.slice at2 y.result.shape.dims.length ct2,.slice aq2 m cq2] 29))=W at *
 have HCX:Hid (∀ W',Below W.heap.size W W'→Calls Tryz.prog 41 #[.agg #[.slice ap n cp,.string x.result.elem,.string x.result.shape.row,.slice at_ x.result.shape.dims.length ct,.slice aq m cq]] W' fun e w'=>(∃ a c,e= .returned (.slice a (allT x).length c)∧Sl RTyp All w' a (allT x).length c (allT x))∧Below W.heap.size W w'∧Below W'.heap.size W' w') :=
  hJ (fun W' hW'=>(HCX.out W' (B0.out.trans (hW'.mono B0.out.size))).mono fun e w' ⟨⟨v,he,ho⟩,hb⟩=>by
   obtain ⟨a,c,rfl,hs⟩:=ho.sl;exact ⟨⟨a,c,he,hs.all⟩,hW'.trans (hb.mono hW'.size),hb⟩)
 have HCY:Hid (∀ W',Below W.heap.size W W'→Calls Tryz.prog 41 #[.agg #[.slice ap2 n cp2,.string y.result.elem,.string y.result.shape.row,.slice at2 y.result.shape.dims.length ct2,.slice aq2 m cq2]] W' fun e w'=>(∃ a c,e= .returned (.slice a (allT y).length c)∧Sl RTyp All w' a (allT y).length c (allT y))∧Below W.heap.size W w'∧Below W'.heap.size W' w') :=
  hJ (fun W' hW'=>(HCY.out W' (B0.out.trans (hW'.mono B0.out.size))).mono fun e w' ⟨⟨v,he,ho⟩,hb⟩=>by
   obtain ⟨a,c,rfl,hs⟩:=ho.sl;exact ⟨⟨a,c,he,hs.all⟩,hW'.trans (hb.mono hW'.size),hb⟩)
 obtain ⟨N,hN⟩:∃ N,N=n+1:=⟨_,rfl⟩
 rw [HAX.out,← hN] at HCX;rw [HAY.out,← hN] at HCY;have hN2:N≤9223372036854775807:=by omega
 have HQ:=hJ (HQ0.out.below B0.out);have HQ2:=hJ (HQ20.out.below B0.out)
 go_region_with (first
  | (go_at_call_of 41 (Value.slice ap n cp)
     refine (HCX.out _ ?hw).mono ?_
     case hw=>(repeat (first | assumption | exact Below.refl _ _ | exact Hid.out (by assumption) | refine kFH ?_ _ | refine kG4 ?_))
     rintro e w1 ⟨⟨ax,cx,rfl,hslx⟩,hbx,hbx2⟩;have r0:=kAF xb0 _ hbx;have r1:=kAF xb1 _ hbx;have r2:=kAF xb2 _ hbx;have r3:=kAF xb3 _ hbx;have r4:=kAF xb4 _ hbx)
  | (go_at_call_of 41 (Value.slice ap2 n cp2)
     refine (HCY.out _ ?hw).mono ?_
     case hw=>(repeat (first | assumption | exact Below.refl _ _ | exact Hid.out (by assumption) | refine kFH ?_ _ | refine kG4 ?_))
     rintro e w2 ⟨⟨ay,cy,rfl,hsly⟩,hby,hby2⟩;have r0:=kAF xa0 _ hby;have r1:=kAF xa1 _ hby;have r2:=kAF xa2 _ hby;have r3:=kAF xa3 _ hby;have r4:=kAF xa4 _ hby))
 all_goals
  have HSX:=hJ (hslx.below hby2);have HSY:=hJ hsly;have HLX:Hid ((allT x).length=N):=hJ (by rw [HAX.out,hN]);have HLY:Hid ((allT y).length=N):=hJ (by rw [HAY.out,hN]);have g4:=kAF xa4 _ hby;have k4:=kAF xb4 _ hby;have HW2:=hJ hby;have HQ2:=hJ (HQ2.out.below hby);have HQ:=hJ (HQ.out.below hby);clear hslx hsly hbx hbx2 hby hby2 r0 r1 r2 r3 r4 xa0 xa1 xa2 xa3 xa4 xb0 xb1 xb2 xb3 xb4 HCX HCY
  go_wp2_with fail
  go_loopw [7] (fun i wr=>∃ k:Nat,k≤N∧i= .int .i64 k∧Hid (∀ j,j<k→kIM ((allT x).getD j default) ((allT y).getD j default)=true)∧Below w2.heap.size w2 wr) (fun i _=>N - (intOf i).toNat)
  case atStart=>exact ⟨0,Nat.zero_le _,rfl,fun j hj=>absurd hj (by omega),Below.refl _ _⟩
  case round =>
   obtain ⟨k,hk,rfl,HT,hB⟩:=hrel;by_cases hlt:k<N
   · obtain ⟨b,off,rfl,hbW,_⟩:=HSX.out.form k hlt
     obtain ⟨b2,off2,rfl,hbW2,_⟩:=HSY.out.form k hlt;obtain ⟨t,hr,hd,c0,c1,c2⟩:=(HSX.out.below hB).typ k hlt;obtain ⟨t2,hr2,hd2,d0,d1,d2⟩:=(HSY.out.below hB).typ k hlt;have HC:=hJ (fun t9:Later wr=>ref12_Equal (RTyp.below hr t9.b) (RTyp.below hr2 t9.b));have c0:=Later.cell c0;have c1:=Later.cell c1;have c2:=Later.cell c2;have d0:=Later.cell d0;have d1:=Later.cell d1;have d2:=Later.cell d2;have HBad:=hJ (fun q=>eqList_bad (p:=kIM) (l:=allT x) (l2:=allT y) (k:=k) (by rw [HLX.out];exact hlt) q);have HGo:=hJ (fun q=>upto HT.out (p:=fun j=>kIM ((allT x).getD j default) ((allT y).getD j default)=true) q);clear hr hr2 hd hd2;generalize (allT x).getD k default=u at *;generalize (allT y).getD k default=u2 at *;generalize kIM u u2=q at *;cases q with
     | true =>
       replace HGo:=hJ (HGo.out rfl)
       go_wp2_with fail
       refine kAC (by kernel_rfl) (by kernel_rfl) ?_
       repeat (go_big_quiet_step (first | fail | exact Later.call (HC.out _)))
       refine wpQuiet_nil ?_;rintro _ ⟨t9,rfl⟩
       go_wp2_with fail
       go_roundw
       case rel=>exact ⟨k+1,by omega,by go_num,HGo,hB.trans (t9.b.mono hB.size)⟩
       case measure=>simp [intOf];omega
     | false =>
       have HF:Hid (eqSch x y=false):=hJ (by rw [HN.out,HBad.out rfl];rfl)
       go_wp2_with fail
       refine kAC (by kernel_rfl) (by kernel_rfl) ?_
       repeat (go_big_quiet_step (first | fail | exact Later.call (HC.out _)))
       refine wpQuiet_nil ?_;rintro _ ⟨t9,rfl⟩
       go_wp2_with fail
       go_ret;exact ⟨by rw [HF.out];rfl,B0.out.trans ((HW2.out.trans ((hB.trans (t9.b.mono hB.size)).mono HW2.out.size)).mono B0.out.size)⟩
   · have HA:Hid (kBE kIM (allT x) (allT y)=true):=hJ (eqList_good (by rw [HLX.out,HLY.out]) (fun j hj=>HT.out j (by rw [HLX.out] at hj;omega)))
     have HN2:Hid (eqSch x y=kBE kCK x.wh y.wh):=hJ (by rw [HN.out,HA.out];rfl);have hW3:=HW2.out.trans (hB.mono HW2.out.size);have g5:=kAF g4 _ hB;have k5:=kAF k4 _ hB;have HW3:=hJ hB;clear hW3 hB
     go_wp2_with fail
     go_loopw [8] (fun i wr=>∃ k:Nat,k≤m∧i= .int .i64 k∧Hid (∀ j,j<k→kCK (x.wh.getD j default) (y.wh.getD j default)=true)∧Below w2.heap.size w2 wr) (fun i _=>m - (intOf i).toNat)
     case atStart=>exact ⟨0,Nat.zero_le _,rfl,fun j hj=>absurd hj (by omega),HW3.out⟩
     case round =>
      obtain ⟨k,hk,rfl,HT,hB⟩:=hrel;have g6:=kAF g4 _ hB;have k6:=kAF k4 _ hB;by_cases hlt:k<m
      · obtain ⟨b,off,rfl,hbW,_⟩:=HQ.out.form k hlt
        obtain ⟨b2,off2,rfl,hbW2,_⟩:=HQ2.out.form k hlt;obtain ⟨t,hr,hd,c0,c1⟩:=(HQ.out.below hB).lin k hlt;obtain ⟨t2,hr2,hd2,d0,d1⟩:=(HQ2.out.below hB).lin k hlt;have HC:=hJ (fun t9:Later wr=>ref04_Equal (RLin.below hr t9.b) (RLin.below hr2 t9.b));have g7:=Later.cell g6;have k7:=Later.cell k6;have c0:=Later.cell c0;have c1:=Later.cell c1;have d0:=Later.cell d0;have d1:=Later.cell d1;have HBad:=hJ (fun q=>eqList_bad (p:=kCK) (l:=x.wh) (l2:=y.wh) (k:=k) (by rw [HL1.out];exact hlt) q);have HGo:=hJ (fun q=>upto HT.out (p:=fun j=>kCK (x.wh.getD j default) (y.wh.getD j default)=true) q);clear hr hr2 hd hd2;generalize x.wh.getD k default=u at *;generalize y.wh.getD k default=u2 at *;generalize kCK u u2=q at *;cases q with
        | true =>
          replace HGo:=hJ (HGo.out rfl)
          go_wp2_with fail
          refine kAC (by kernel_rfl) (by kernel_rfl) ?_
          repeat (go_big_quiet_step (first | fail | exact Later.call (HC.out _)))
          refine wpQuiet_nil ?_;rintro _ ⟨t9,rfl⟩
          go_wp2_with fail
          go_roundw
          case rel=>exact ⟨k+1,by omega,by go_num,HGo,hB.trans (t9.b.mono hB.size)⟩
          case measure=>simp [intOf];omega
        | false =>
          have HF:Hid (eqSch x y=false):=hJ (by rw [HN2.out,HBad.out rfl])
          go_wp2_with fail
          refine kAC (by kernel_rfl) (by kernel_rfl) ?_
          repeat (go_big_quiet_step (first | fail | exact Later.call (HC.out _)))
          refine wpQuiet_nil ?_;rintro _ ⟨t9,rfl⟩
          go_wp2_with fail
          go_ret;exact ⟨by rw [HF.out];rfl,B0.out.trans ((HW2.out.trans ((hB.trans (t9.b.mono hB.size)).mono HW2.out.size)).mono B0.out.size)⟩
      · have HF:Hid (eqSch x y=true):=hJ (by rw [HN2.out];exact eqList_good (by rw [HL1.out,HL2.out]) (fun j hj=>HT.out j (by rw [HL1.out] at hj;omega)))
        go_wp2_with fail
        go_ret;exact ⟨by rw [HF.out];rfl,B0.out.trans ((HW2.out.trans (hB.mono HW2.out.size)).mono B0.out.size)⟩
theorem kD5 {α :Type} {p: α →Bool} {l:List α} (h:(!l.any (fun x=> !p x))=true):∀ x ∈ l,p x=true:=by
 intro x hx;cases hp:p x with
 | true=>rfl
 | false =>
   have:l.any (fun x=> !p x)=true:=List.any_eq_true.2 ⟨x,hx,by rw [hp];rfl⟩;rw [this] at h;cases h
theorem few_lin {x:Lin} (h:kDZ x=true):szL x:=by
 unfold kDZ at h;rw [Bool.and_eq_true] at h;intro t ht;have:=kD5 h.1 t ht;unfold fewC at this;have:=of_decide_eq_true this;omega
theorem few_shp {s:Shp} (h:kDQ s=true):szH s∧s.dims.length≤8:=by
 unfold kDQ at h;rw [Bool.and_eq_true,Bool.and_eq_true,decide_eq_true_eq,decide_eq_true_eq] at h;exact ⟨⟨by omega,fun x hx=>few_lin (kD5 h.1 x hx)⟩,h.2.1⟩
theorem few_typ {t:Typ} (h:kEI t=true):szT t:=by
 unfold kEI at h;rw [Bool.and_eq_true,decide_eq_true_eq] at h;exact ⟨by omega,(few_shp h.2).1⟩
theorem few_sch {s:Sch} (h:kHB s=true) (hw:∀ y ∈ s.wh,szL y):szS s∧s.params.length≤13∧(kAM s=true→s.wh.length≤8):=by
 unfold kHB at h;rw [Bool.and_eq_true,Bool.and_eq_true,Bool.and_eq_true,Bool.or_eq_true,decide_eq_true_eq,decide_eq_true_eq,beq_iff_eq] at h;obtain ⟨h1,h2,h3,h4⟩:=h;have ha:=kD5 h1;refine ⟨⟨fun t ht=>few_typ (ha t ?_),few_typ (ha _ ?_),hw⟩,h3,fun hv=>?_⟩
 · unfold allT;exact List.mem_append_left _ ht
 · unfold allT;exact List.mem_append_right _ (List.mem_singleton.2 rfl)
 · have:=(kAV hv).2.1
   omega
theorem wp_call {P:Program} {o:Oper} {a:Act} {w:World} {K:Act→World→Prop} {Q:Exit→Act→World→Prop} {f:FuncId} {us:Array Value} {R:Value→World→Prop}
 (he:(execOp a.eval o).run P w= .ok (.enter f us) w) (hc:Calls P f us w fun e w'=>∃ v,e= .returned v∧R v w') (hk:∀ v w',R v w'→K (a.put o.dst v) w'):Oper.wp P o a w K Q:=by
 unfold Oper.wp;rw [he,Oper.upon_enter];refine hc.mono ?_;rintro e w' ⟨v,rfl,hr⟩;exact hk v w' hr
def Gives (P:Program) (f:FuncId) (us:Array Value) (R:Value→World→Prop) (W:World):Prop:=Calls P f us W fun e W'=>∃ v,e= .returned v∧R v W'∧Below W.heap.size W W'
section
variable {P:Program} {md:Region.Mode} {ops:Array Oper} {Q:Exit→Act→World→Prop} {w0:World} {fuel:Nat} {listed:Array Bool} {a:Act} {w:World}
theorem below_on {w0 W W':World} (h:Below w0.heap.size w0 W) (hb:Below W.heap.size W W'):Below w0.heap.size w0 W':=h.trans (hb.mono h.size)
theorem kD7 (i:Nat) {oi:Oper} {f:FuncId} {us:Array Value} {R:Value→World→Prop} (hi:ops[i]? =some oi) (hr:Region.ready md ops listed=[i])
 (ni:Region.wanted oi (yielded ops a.tmps)=true) (ei:∀ W,(execOp a.eval oi).run P W= .ok (.enter f us) W) (ci:Gives P f us R w) (hS:Below w0.heap.size w0 w)
 (h:∀ v W,R v W→Below w.heap.size w W→Below w0.heap.size w0 W→wpAnyH P md ops Q (fun W=>Below w0.heap.size w0 W) fuel (listed.setIfInBounds i true) (a.put oi.dst v) W) :
 wpAnyH P md ops Q (fun W=>Below w0.heap.size w0 W) (fuel+1) listed a w:=by
 refine wpAnyH_ready hr (by simp) (AllReadyH.cons hi (fun K hK=>?_) AllReadyH.nil);rw [if_pos ni];refine wp_call (ei w) ci fun v W ⟨hv,hb⟩=>?_
 exact hK.out _ _ (below_on hS hb) fun _=>h v W hv hb (below_on hS hb)
end
def IsVars (l:List Bnd) (v:Value) (W:World):Prop:=∃ a c,v= .slice a l.length c∧Sl RBnd All W a l.length c l
theorem IsVars.below {l:List Bnd} {v:Value} {W W':World} (h:IsVars l v W) (hb:Below W.heap.size W W'):IsVars l v W':=by
 obtain ⟨a,c,rfl,hs⟩:=h;exact ⟨a,c,rfl,hs.below hb⟩
theorem gives_vars {P:Program} {f:FuncId} {us:Array Value} {E:TypeId} {W:World} {l:List Bnd} (h:Calls P f us W fun e W'=>(∃ v,e= .returned v∧Own RBnd E (fun _=>False) W' W.heap.size v l)∧Below W.heap.size W W'):Gives P f us (IsVars l) W :=
 h.mono fun e W' ⟨⟨v,he,ho⟩,hb⟩=>by
  obtain ⟨a,c,rfl,hs⟩:=ho.sl;exact ⟨_,he,⟨a,c,rfl,hs.all⟩,hb⟩
theorem gives_same {P:Program} {f:FuncId} {us:Array Value} {u:Value} {W:World} (h:Calls P f us W fun e W'=>e= .returned u∧W=W'):Gives P f us (fun v _=>v=u) W :=
 h.mono fun e W' ⟨he,hb⟩=>⟨u,he,rfl,by subst hb;exact Below.refl _ _⟩
theorem find_gives {l:List Bnd} {v:Value} {W:World} (h:IsVars l v W) (k:Int) (s:Str):Gives Tryz.prog 19 #[v,.int .i64 k,.string s] (fun u _=>u= .int .i64 (kAU l k s)) W:=by
 obtain ⟨a,c,rfl,hs⟩:=h;exact gives_same (kC9 l a _ c W hs k s)
theorem few_bnd {y:Bnd} (h:fewB y=true):szB y:=by
 unfold fewB at h;rw [Bool.and_eq_true,Bool.and_eq_true,Bool.and_eq_true,decide_eq_true_eq,decide_eq_true_eq] at h;exact ⟨by omega,by omega,few_lin h.2.2.1,(few_shp h.2.2.2).1⟩
theorem few_bnds {l:List Bnd} (h:fewBs l=true):(∀ y ∈ l,szB y)∧l.length≤10:=by
 unfold fewBs at h;rw [Bool.and_eq_true,decide_eq_true_eq] at h;exact ⟨fun y hy=>few_bnd (kD5 h.1 y hy),h.2⟩
theorem sub_none (s:Sch):(kG9 [] s=0∧kAM s=true∧kF0 [] s=s)∨(kG9 [] s=1∧kAM s=false):=by
 have hb:kAO []=true:=rfl;cases hv:kAM s with
 | true =>
   have ho:okSc [] s=true:=by unfold okSc;rw [hv,hb];rfl
   obtain ⟨h1,h2⟩:=subSch_nil hv;exact .inl ⟨by unfold kG9;rw [if_pos ho];exact h2,rfl,by unfold kF0;rw [if_pos ho];exact h1⟩
 | false =>
   have ho:okSc [] s=false:=by unfold okSc;rw [hv];rfl
   exact .inr ⟨by unfold kG9;rw [ho];rfl,rfl⟩
theorem sub_some (b:List Bnd) (x:Typ):(subTyE b x=0∧kAE x=true∧kAO b=true∧kFY b x=kAS b x)∨(subTyE b x != 0)=true:=by
 unfold subTyE kFY;cases ho:okTy b x with
 | true =>
   have h2:=ho;unfold okTy at h2;rw [Bool.and_eq_true] at h2;cases hs:kAX b x.shape with
   | true =>
     obtain ⟨q1,q2,_⟩:=kCM hs;exact .inl ⟨by rw [if_pos rfl];exact q2,h2.1,h2.2,by rw [if_pos rfl];exact q1⟩
   | false=>rw [if_pos rfl,(kBI hs).2.1];exact .inr rfl
 | false=>exact .inr rfl
theorem subTyA_sz {b:List Bnd} {x:Typ}:szT (kFY b x):=by
 have hno:szT kBN:=⟨by decide,by decide,fun x hx=>by cases hx⟩
 unfold kFY;cases ho:okTy b x with
 | true =>
   rw [if_pos rfl];unfold okTy at ho;rw [Bool.and_eq_true] at ho;cases hs:kAX b x.shape with
   | true=>rw [(kCM hs).1];exact typ_sz (subTyp_valid ho.2 ho.1 hs)
   | false=>rw [(kBI hs).1];exact hno
 | false=>exact hno
theorem subScA_len (b:List Bnd) {s:Sch} (h:s.params.length≤1000000):(kF0 b s).params.length≤1000000:=by
 unfold kF0 kDV
 split
 · split
   · show (s.params.map _).length≤1000000
     rw [List.length_map];exact h
   · exact (by decide:(0:Nat)≤1000000)
 · exact (by decide:(0:Nat)≤1000000)
def OwnV (n0:Nat) (l:List Bnd) (v:Value) (W:World):Prop:=∃ B,n0≤B∧B≤W.heap.size∧Own RBnd 47 (fun _=>False) W B v l
theorem OwnV.below {n0:Nat} {l:List Bnd} {v:Value} {W W':World} (h:OwnV n0 l v W) (hb:Below W.heap.size W W'):OwnV n0 l v W':=by
 obtain ⟨B,h1,h2,h3⟩:=h;exact ⟨B,h1,Nat.le_trans h2 hb.size,h3.below hb⟩
theorem gives_own {P:Program} {f:FuncId} {us:Array Value} {n0:Nat} {W:World} {l:List Bnd} (h0:n0≤W.heap.size) (h:Calls P f us W fun e W'=>(∃ v,e= .returned v∧Own RBnd 47 (fun _=>False) W' W.heap.size v l)∧Below W.heap.size W W'):Gives P f us (OwnV n0 l) W :=
 h.mono fun e W' ⟨⟨v,he,ho⟩,hb⟩=>⟨v,he,⟨_,h0,hb.size,ho⟩,hb⟩
theorem law12_Subst {S1 S2 S3:Blk} {x:Typ} {s:Sch} {l:List Bnd} {cs ds:List Value} {a0:Option Addr} {nl c0:Nat} {w:World} (h1:RTyp.rd S1 w cs x) (h2:RSch.rd S2 w ds s) (h3:Sl RBnd S3 w a0 nl c0 l)
 (hx:∀ y ∈ x.shape.dims,∀ t ∈ y.terms,t.v.size≤281474976710656) (hxr:x.shape.row.size≤281474976710656) (hxe:x.elem.size≤281474976710656)
 (hs:bigS s) (hsw:∀ y ∈ s.wh,szL y) (hl:∀ y ∈ l,bigB y) (E:EnvM w) :
 Calls Tryz.prog 3 #[.agg cs.toArray,.agg ds.toArray,.slice a0 nl c0] w fun e w'=>e= .returned (.bool true)∧Below w.heap.size w w':=by
 have HE:=hJ (fun (W:World) (hW:Below w.heap.size w W)=>E.below hW);have HF1:=hJ (fun (W:World) (hW:Below w.heap.size w W)=>kID (RTyp.below h1 hW) hx hxr hxe);have HF2:=hJ (fun (W:World) (hW:Below w.heap.size w W)=>ref12_Few (RSch.below h2 hW) hs);have HF3:=hJ (fun (W:World) (hW:Below w.heap.size w W)=>ref11_FewBinds (h3.below hW) hl);have HA:=hJ (fun (W:World) (hW:Below w.heap.size w W)=>law12_awake W (E.below hW));have HZ1:=hJ (fun (q:kEI x=true)=>few_typ q);have HZ2:=hJ (fun (q:kHB s=true)=>few_sch q hsw);have HZ3:=hJ (fun (q:fewBs l=true)=>few_bnds q);have HR1:=hJ h1;have HR2:=hJ h2;have HR3:=hJ h3;have hnl:=h3.small;obtain ⟨_,rfl,a1,c1,rfl,_⟩:=h1;obtain ⟨_,_,_,rfl,⟨a3,c3,rfl,_⟩,⟨b3,d3,rfl,_⟩,⟨o3,k3,rfl,_⟩⟩:=h2;clear hx hxr hxe hs hsw hl E h3;obtain ⟨B0,ya,yb,hW0⟩:=box2 w 26 [.string x.elem,.string x.shape.row,.slice a1 x.shape.dims.length c1] 29 [.slice a3 s.params.length c3,.string s.result.elem,.string s.result.shape.row,.slice b3 s.result.shape.dims.length d3,.slice o3 s.wh.length k3];have xa0:=box0 ya 0 _ rfl;have xa1:=box0 ya 1 _ rfl;have xa2:=box0 ya 2 _ rfl;have xb0:=box0 yb 0 _ rfl;have xb1:=box0 yb 1 _ rfl;have xb2:=box0 yb 2 _ rfl;have xb3:=box0 yb 3 _ rfl;have xb4:=box0 yb 4 _ rfl;have bka:Bx _ _ _ _:=ya;have bkb:Bx _ _ _ _:=yb;clear ya yb;have HX:=hJ bka;have HS:=hJ bkb;clear bka bkb;clear xa0 xa1 xa2 xb0 xb1 xb2 xb3 xb4;go_enter func3,ntmps3
 go_wp2_with fail
 refine (HA.out _ B0.out).mono ?_;rintro e w1 ⟨rfl,hb1⟩;have HW1:=hJ (B0.out.trans (hb1.mono B0.out.size));have HX1:=hJ (HX.out.below hb1 HX.out.lt);have HS1:=hJ (HS.out.below hb1 HS.out.lt);clear hb1 HX HS B0;have x0:=HX1.out.cell 0 _ rfl;have x1:=HX1.out.cell 1 _ rfl;have x2:=HX1.out.cell 2 _ rfl;have s0:=HS1.out.cell 0 _ rfl;have s1:=HS1.out.cell 1 _ rfl;have s2:=HS1.out.cell 2 _ rfl;have s3:=HS1.out.cell 3 _ rfl;have s4:=HS1.out.cell 4 _ rfl;have HC:=hJ (HF1.out w1 HW1.out);cases hf0:kEI x with
 | false =>
   have hf:=hf0;rw [hf] at HC
   go_wp2_with fail
   refine (HC.out).mono ?_;rintro e w8 ⟨rfl,hb8⟩;have HW8:=hJ (HW1.out.trans (hb8.mono HW1.out.size));clear hb8
   go_wp2_with fail
   refine (HA.out _ HW8.out).mono ?_;rintro e w9 ⟨rfl,hb9⟩;have HW9:=hJ (HW8.out.trans (hb9.mono HW8.out.size));clear hb9
   go_wp2_with fail
   go_ret;exact ⟨rfl,HW9.out⟩
 | true =>
 rw [hf0] at HC
 go_wp2_with fail
 refine (HC.out).mono ?_;rintro e w2 ⟨rfl,hb2⟩;have HW2:=hJ (HW1.out.trans (hb2.mono HW1.out.size));clear x0 x1 x2 s0 s1 s2 s3 s4;have HX2:=hJ (HX1.out.below hb2 HX1.out.lt);have HS2:=hJ (HS1.out.below hb2 HS1.out.lt);clear hb2 HC HX1 HS1 HW1 HF1;have x0:=HX2.out.cell 0 _ rfl;have x1:=HX2.out.cell 1 _ rfl;have x2:=HX2.out.cell 2 _ rfl;have s0:=HS2.out.cell 0 _ rfl;have s1:=HS2.out.cell 1 _ rfl;have s2:=HS2.out.cell 2 _ rfl;have s3:=HS2.out.cell 3 _ rfl;have s4:=HS2.out.cell 4 _ rfl;have HC:=hJ (HF2.out w2 HW2.out);cases hf1:kHB s with
 | false =>
   have hf:=hf1;rw [hf] at HC
   go_wp2_with fail
   refine (HC.out).mono ?_;rintro e w8 ⟨rfl,hb8⟩;have HW8:=hJ (HW2.out.trans (hb8.mono HW2.out.size));clear hb8
   go_wp2_with fail
   refine (HA.out _ HW8.out).mono ?_;rintro e w9 ⟨rfl,hb9⟩;have HW9:=hJ (HW8.out.trans (hb9.mono HW8.out.size));clear hb9
   go_wp2_with fail
   go_ret;exact ⟨rfl,HW9.out⟩
 | true =>
 rw [hf1] at HC
 go_wp2_with fail
 refine (HC.out).mono ?_;rintro e w3 ⟨rfl,hb3⟩;have HW3:=hJ (HW2.out.trans (hb3.mono HW2.out.size));clear x0 x1 x2 s0 s1 s2 s3 s4;have HX3:=hJ (HX2.out.below hb3 HX2.out.lt);have HS3:=hJ (HS2.out.below hb3 HS2.out.lt);clear hb3 HC HX2 HS2 HW2 HF2;have x0:=HX3.out.cell 0 _ rfl;have x1:=HX3.out.cell 1 _ rfl;have x2:=HX3.out.cell 2 _ rfl;have s0:=HS3.out.cell 0 _ rfl;have s1:=HS3.out.cell 1 _ rfl;have s2:=HS3.out.cell 2 _ rfl;have s3:=HS3.out.cell 3 _ rfl;have s4:=HS3.out.cell 4 _ rfl;have HC:=hJ (HF3.out w3 HW3.out);cases hf2:fewBs l with
 | false =>
   have hf:=hf2;rw [hf] at HC
   go_wp2_with fail
   refine (HC.out).mono ?_;rintro e w8 ⟨rfl,hb8⟩;have HW8:=hJ (HW3.out.trans (hb8.mono HW3.out.size));clear hb8
   go_wp2_with fail
   refine (HA.out _ HW8.out).mono ?_;rintro e w9 ⟨rfl,hb9⟩;have HW9:=hJ (HW8.out.trans (hb9.mono HW8.out.size));clear hb9
   go_wp2_with fail
   go_ret;exact ⟨rfl,HW9.out⟩
 | true =>
 rw [hf2] at HC
 go_wp2_with fail
 refine (HC.out).mono ?_;rintro e w4 ⟨rfl,hb4⟩;have HW4:=hJ (HW3.out.trans (hb4.mono HW3.out.size));clear x0 x1 x2 s0 s1 s2 s3 s4;have HX4:=hJ (HX3.out.below hb4 HX3.out.lt);have HS4:=hJ (HS3.out.below hb4 HS3.out.lt);clear hb4 HC HX3 HS3 HW3 HF3;have x0:=HX4.out.cell 0 _ rfl;have x1:=HX4.out.cell 1 _ rfl;have x2:=HX4.out.cell 2 _ rfl;have s0:=HS4.out.cell 0 _ rfl;have s1:=HS4.out.cell 1 _ rfl;have s2:=HS4.out.cell 2 _ rfl;have s3:=HS4.out.cell 3 _ rfl;have s4:=HS4.out.cell 4 _ rfl;have HSx:=hJ (HZ1.out hf0);have HSs:=hJ (HZ2.out hf1);have HSl:=hJ (HZ3.out hf2);clear HZ1 HZ2 HZ3 HA hf0 hf1 hf2;have HC1:=hJ (fun (W:World) (hW:Below w.heap.size w W)=>types_Subst_any (RTyp.below HR1.out hW) HSx.out l a0 nl c0 (HR3.out.below hW) HSl.out.1 (HE.out W hW).env);have HC2:=hJ (fun (W:World) (hW:Below w.heap.size w W)=>ref12_Subst_any (RTyp.below HR1.out hW) HSx.out l a0 nl c0 (HR3.out.below hW) HSl.out.1);have HC3:=hJ (fun (W:World) (hW:Below w.heap.size w W)=>kDF (RSch.below HR2.out hW) HSs.out.1 l a0 nl c0 (HR3.out.below hW) HSl.out.1 (HE.out W hW).env);have HC4:=hJ (fun (W:World) (hW:Below w.heap.size w W)=>kF8 (RSch.below HR2.out hW) HSs.out.1 l a0 nl c0 (HR3.out.below hW) HSl.out.1 (Nat.le_trans HSs.out.2.1 (by decide)));have HC5:=hJ (fun (W:World) (hW:Below w.heap.size w W)=>kDF (T:=All) (RSch.below HR2.out hW) HSs.out.1 [] none 0 0 (Sl.empty _ _ _) (fun y hy=>absurd hy (List.not_mem_nil)) (HE.out W hW).env);have HC6:=hJ (fun (W:World) (hW:Below w.heap.size w W)=>kC8 (RSch.below HR2.out hW) HSs.out.1 (Nat.le_trans HSs.out.2.1 (by decide)));have HSm:=hJ (sub_some l x);have HNn:=hJ (sub_none s);have HAz:Hid (szT (kFY l x)):=hJ subTyA_sz;have HCl:=hJ (subScA_len l (s:=s) (Nat.le_trans HSs.out.2.1 (by decide)));have HNl:=hJ (subScA_len [] (s:=s) (Nat.le_trans HSs.out.2.1 (by decide)));have HEt:=hJ ((kIL (kFY l x) (kFY l x)).2 rfl);have HEs:=hJ ((eqSch_iff (kF0 l s) (kF0 l s)).2 rfl);have HSv:=hJ (fun (q1:kAE x=true) (q2:kAO l=true) (z:Bnd) (hz:z ∈ kA6 (kAS l x))=>subst_vars q1 q2 hz);generalize kFY l x=A at *;generalize subTyE l x=e1 at *;generalize kF0 l s=C at *;generalize kG9 l s=e2 at *;generalize kF0 [] s=N at *
 generalize kG9 [] s=e3 at *
 go_wp2_with fail
 refine (HC1.out _ HW4.out).mono ?_;rintro e w5 ⟨⟨ds5,rfl,h⟩,hb⟩;obtain ⟨_,rfl,aA,cA,rfl,_⟩:=id h;have HRA5:=hJ h;have HWa:=hJ (HW4.out.trans (hb.mono HW4.out.size));have HXa:=hJ (HX4.out.below hb HX4.out.lt);have HSa:=hJ (HS4.out.below hb HS4.out.lt);clear h hb HX4 HS4 HW4 HC1;clear x0 x1 x2 s0 s1 s2 s3 s4;obtain ⟨HB5,hy,hz5⟩:=box1 w5 26 [.string A.elem,.string A.shape.row,.slice aA A.shape.dims.length cA];have HPA:Hid (Bx _ _ _ _):=hJ hy;have HRA:=hJ (RTyp.below HRA5.out HB5.out);have HW5:=hJ (HWa.out.trans (HB5.out.mono HWa.out.size));have HX5:=hJ (HXa.out.below HB5.out HXa.out.lt);have HS5:=hJ (HSa.out.below HB5.out HSa.out.lt);clear HB5 hy HRA5 HWa HXa HSa;have x0:=HX5.out.cell 0 _ rfl;have x1:=HX5.out.cell 1 _ rfl;have x2:=HX5.out.cell 2 _ rfl;have s0:=HS5.out.cell 0 _ rfl;have s1:=HS5.out.cell 1 _ rfl;have s2:=HS5.out.cell 2 _ rfl;have s3:=HS5.out.cell 3 _ rfl;have s4:=HS5.out.cell 4 _ rfl
 go_wp2_with fail
 refine (HC2.out _ HW5.out).mono ?_;rintro e w6 ⟨⟨ds6,rfl,h⟩,hb⟩;obtain ⟨_,rfl,aB,cB,rfl,_⟩:=id h;have HRB5:=hJ h;have HWa:=hJ (HW5.out.trans (hb.mono HW5.out.size));have HXa:=hJ (HX5.out.below hb HX5.out.lt);have HSa:=hJ (HS5.out.below hb HS5.out.lt);have HPAa:=hJ (HPA.out.below hb HPA.out.lt);have HRAa:=hJ (RTyp.below HRA.out hb);have hl5:=hb.size;rw [hz5] at hl5;clear h hb HX5 HS5 HW5 HC2 HPA HRA;clear x0 x1 x2 s0 s1 s2 s3 s4;obtain ⟨HB6,hy,hz6⟩:=box1 w6 26 [.string A.elem,.string A.shape.row,.slice aB A.shape.dims.length cB];have HPB:Hid (Bx _ _ _ _):=hJ hy;have HRB:=hJ (RTyp.below HRB5.out HB6.out);have HW6:=hJ (HWa.out.trans (HB6.out.mono HWa.out.size));have HX6:=hJ (HXa.out.below HB6.out HXa.out.lt);have HS6:=hJ (HSa.out.below HB6.out HSa.out.lt);have HPA6:=hJ (HPAa.out.below HB6.out HPAa.out.lt);have HRA6:=hJ (RTyp.below HRAa.out HB6.out);clear HB6 hy HRB5 HWa HXa HSa HPAa HRAa;have x0:=HX6.out.cell 0 _ rfl;have x1:=HX6.out.cell 1 _ rfl;have x2:=HX6.out.cell 2 _ rfl;have s0:=HS6.out.cell 0 _ rfl;have s1:=HS6.out.cell 1 _ rfl;have s2:=HS6.out.cell 2 _ rfl;have s3:=HS6.out.cell 3 _ rfl;have s4:=HS6.out.cell 4 _ rfl
 go_wp2_with fail
 refine (HC3.out _ HW6.out).mono ?_;rintro e w7 ⟨⟨ds7,rfl,h⟩,hb⟩;obtain ⟨_,_,_,rfl,⟨pC,qC,rfl,_⟩,⟨rC,tC,rfl,_⟩,⟨uC,vC,rfl,_⟩⟩:=id h;have HRC5:=hJ h;have HWa:=hJ (HW6.out.trans (hb.mono HW6.out.size));have HXa:=hJ (HX6.out.below hb HX6.out.lt);have HSa:=hJ (HS6.out.below hb HS6.out.lt);have HPAa:=hJ (HPA6.out.below hb HPA6.out.lt);have HRAa:=hJ (RTyp.below HRA6.out hb);have HPBa:=hJ (HPB.out.below hb HPB.out.lt);have HRBa:=hJ (RTyp.below HRB.out hb);have hl6:=hb.size;rw [hz6] at hl6;clear h hb HX6 HS6 HW6 HC3 HPA6 HRA6 HPB HRB;clear x0 x1 x2 s0 s1 s2 s3 s4;obtain ⟨HB7,hy,hz7⟩:=box1 w7 29 [.slice pC C.params.length qC,.string C.result.elem,.string C.result.shape.row,.slice rC C.result.shape.dims.length tC,.slice uC C.wh.length vC];have HPC:Hid (Bx _ _ _ _):=hJ hy;have HRC:=hJ (RSch.below HRC5.out HB7.out);have HW7:=hJ (HWa.out.trans (HB7.out.mono HWa.out.size));have HX7:=hJ (HXa.out.below HB7.out HXa.out.lt);have HS7:=hJ (HSa.out.below HB7.out HSa.out.lt);have HPA7:=hJ (HPAa.out.below HB7.out HPAa.out.lt);have HRA7:=hJ (RTyp.below HRAa.out HB7.out);have HPB7:=hJ (HPBa.out.below HB7.out HPBa.out.lt);have HRB7:=hJ (RTyp.below HRBa.out HB7.out);clear HB7 hy HRC5 HWa HXa HSa HPAa HRAa HPBa HRBa;have x0:=HX7.out.cell 0 _ rfl;have x1:=HX7.out.cell 1 _ rfl;have x2:=HX7.out.cell 2 _ rfl;have s0:=HS7.out.cell 0 _ rfl;have s1:=HS7.out.cell 1 _ rfl;have s2:=HS7.out.cell 2 _ rfl;have s3:=HS7.out.cell 3 _ rfl;have s4:=HS7.out.cell 4 _ rfl
 go_wp2_with fail
 refine (HC4.out _ HW7.out).mono ?_;rintro e w8 ⟨⟨ds8,rfl,h⟩,hb⟩;obtain ⟨_,_,_,rfl,⟨pD,qD,rfl,_⟩,⟨rD,tD,rfl,_⟩,⟨uD,vD,rfl,_⟩⟩:=id h;have HRD5:=hJ h;have HWa:=hJ (HW7.out.trans (hb.mono HW7.out.size));have HXa:=hJ (HX7.out.below hb HX7.out.lt);have HSa:=hJ (HS7.out.below hb HS7.out.lt);have HPAa:=hJ (HPA7.out.below hb HPA7.out.lt);have HRAa:=hJ (RTyp.below HRA7.out hb);have HPBa:=hJ (HPB7.out.below hb HPB7.out.lt);have HRBa:=hJ (RTyp.below HRB7.out hb);have HPCa:=hJ (HPC.out.below hb HPC.out.lt);have HRCa:=hJ (RSch.below HRC.out hb);have hl7:=hb.size;rw [hz7] at hl7;clear h hb HX7 HS7 HW7 HC4 HPA7 HRA7 HPB7 HRB7 HPC HRC;clear x0 x1 x2 s0 s1 s2 s3 s4;obtain ⟨HB8,hy,hz8⟩:=box1 w8 29 [.slice pD C.params.length qD,.string C.result.elem,.string C.result.shape.row,.slice rD C.result.shape.dims.length tD,.slice uD C.wh.length vD];have HPD:Hid (Bx _ _ _ _):=hJ hy;have HRD:=hJ (RSch.below HRD5.out HB8.out);have HW8:=hJ (HWa.out.trans (HB8.out.mono HWa.out.size));have HX8:=hJ (HXa.out.below HB8.out HXa.out.lt);have HS8:=hJ (HSa.out.below HB8.out HSa.out.lt);have HPA8:=hJ (HPAa.out.below HB8.out HPAa.out.lt);have HRA8:=hJ (RTyp.below HRAa.out HB8.out);have HPB8:=hJ (HPBa.out.below HB8.out HPBa.out.lt);have HRB8:=hJ (RTyp.below HRBa.out HB8.out);have HPC8:=hJ (HPCa.out.below HB8.out HPCa.out.lt);have HRC8:=hJ (RSch.below HRCa.out HB8.out);clear HB8 hy HRD5 HWa HXa HSa HPAa HRAa HPBa HRBa HPCa HRCa;have p0:=HPA8.out.cell 0 _ rfl;have p1:=HPA8.out.cell 1 _ rfl;have p2:=HPA8.out.cell 2 _ rfl;have q0:=HPB8.out.cell 0 _ rfl;have q1:=HPB8.out.cell 1 _ rfl;have q2:=HPB8.out.cell 2 _ rfl;have HE1:=hJ (HEt.out ▸ ref12_Equal HRA8.out HRB8.out)
 go_wp2_with fail
 refine (HE1.out).mono ?_;rintro e w9 ⟨rfl,hb9⟩;clear p0 p1 p2;clear q0 q1 q2;have HW9:=hJ (HW8.out.trans (hb9.mono HW8.out.size));have HX9:=hJ (HX8.out.below hb9 HX8.out.lt);have HS9:=hJ (HS8.out.below hb9 HS8.out.lt);have HPA9:=hJ (HPA8.out.below hb9 HPA8.out.lt);have HRA9:=hJ (RTyp.below HRA8.out hb9);have HPC9:=hJ (HPC8.out.below hb9 HPC8.out.lt);have HRC9:=hJ (RSch.below HRC8.out hb9);have HPD9:=hJ (HPD.out.below hb9 HPD.out.lt);have HRD9:=hJ (RSch.below HRD.out hb9);have hl8:=hb9.size;rw [hz8] at hl8;clear hb9 HE1 HEt HX8 HS8 HW8 HPA8 HRA8 HPB8 HRB8 HPC8 HRC8 HPD HRD;have p0:=HPC9.out.cell 0 _ rfl;have p1:=HPC9.out.cell 1 _ rfl;have p2:=HPC9.out.cell 2 _ rfl;have p3:=HPC9.out.cell 3 _ rfl;have p4:=HPC9.out.cell 4 _ rfl;have q0:=HPD9.out.cell 0 _ rfl;have q1:=HPD9.out.cell 1 _ rfl;have q2:=HPD9.out.cell 2 _ rfl;have q3:=HPD9.out.cell 3 _ rfl;have q4:=HPD9.out.cell 4 _ rfl;have HE2:=hJ (HEs.out ▸ kE9 HRC9.out HRD9.out HCl.out HCl.out)
 go_wp2_with fail
 refine (HE2.out).mono ?_;rintro e w10 ⟨rfl,hb10⟩;clear p0 p1 p2 p3 p4;clear q0 q1 q2 q3 q4;have HW10:=hJ (HW9.out.trans (hb10.mono HW9.out.size));have HX10:=hJ (HX9.out.below hb10 HX9.out.lt);have HS10:=hJ (HS9.out.below hb10 HS9.out.lt);have HPA10:=hJ (HPA9.out.below hb10 HPA9.out.lt);have HRA10:=hJ (RTyp.below HRA9.out hb10);clear hb10 HE2 HEs HX9 HS9 HW9 HPA9 HRA9 HPC9 HRC9 HPD9 HRD9;have x0:=HX10.out.cell 0 _ rfl;have x1:=HX10.out.cell 1 _ rfl;have x2:=HX10.out.cell 2 _ rfl;have s0:=HS10.out.cell 0 _ rfl;have s1:=HS10.out.cell 1 _ rfl;have s2:=HS10.out.cell 2 _ rfl;have s3:=HS10.out.cell 3 _ rfl;have s4:=HS10.out.cell 4 _ rfl
 go_wp2_with fail
 refine (HC5.out _ HW10.out).mono ?_;rintro e w11 ⟨⟨ds11,rfl,h⟩,hb⟩;obtain ⟨_,_,_,rfl,⟨pN,qN,rfl,_⟩,⟨rN,tN,rfl,_⟩,⟨uN,vN,rfl,_⟩⟩:=id h;have HRN5:=hJ h;have HWa:=hJ (HW10.out.trans (hb.mono HW10.out.size));have HXa:=hJ (HX10.out.below hb HX10.out.lt);have HSa:=hJ (HS10.out.below hb HS10.out.lt);have HPAa:=hJ (HPA10.out.below hb HPA10.out.lt);have HRAa:=hJ (RTyp.below HRA10.out hb);have hl10:=hb.size;clear h hb HX10 HS10 HW10 HC5 HPA10 HRA10;clear x0 x1 x2 s0 s1 s2 s3 s4;obtain ⟨HB11,hy,hz11⟩:=box1 w11 29 [.slice pN N.params.length qN,.string N.result.elem,.string N.result.shape.row,.slice rN N.result.shape.dims.length tN,.slice uN N.wh.length vN];have HPN:Hid (Bx _ _ _ _):=hJ hy;have HRN:=hJ (RSch.below HRN5.out HB11.out);have HW11:=hJ (HWa.out.trans (HB11.out.mono HWa.out.size));have HX11:=hJ (HXa.out.below HB11.out HXa.out.lt);have HS11:=hJ (HSa.out.below HB11.out HSa.out.lt);have HPA11:=hJ (HPAa.out.below HB11.out HPAa.out.lt);have HRA11:=hJ (RTyp.below HRAa.out HB11.out);clear HB11 hy HRN5 HWa HXa HSa HPAa HRAa;have s0:=HS11.out.cell 0 _ rfl;have s1:=HS11.out.cell 1 _ rfl;have s2:=HS11.out.cell 2 _ rfl;have s3:=HS11.out.cell 3 _ rfl;have s4:=HS11.out.cell 4 _ rfl;have HV6:=hJ (HC6.out _ HW11.out);have z0:=HPN.out.cell 0 _ rfl;have z1:=HPN.out.cell 1 _ rfl;have z2:=HPN.out.cell 2 _ rfl;have z3:=HPN.out.cell 3 _ rfl;have z4:=HPN.out.cell 4 _ rfl
 go_upto_region 10 with fail
 clear hz11;generalize (w11.alloc (.cells #[.slice pN N.params.length qN,.string N.result.elem,.string N.result.shape.row,.slice rN N.result.shape.dims.length tN,.slice uN N.wh.length vN] 29))=W11 at *
 go_cut [104] (fun v W=>v= .bool false∧Hid (Below W11.heap.size W11 W))
 case first =>
  have hn:=HNn.out;clear HNn HSm HSv HAz HCl HC6 HX11 HPA11 HRA11 HR1 HR3 HSx HSl;rcases hn with ⟨rfl,hv,rfl⟩ | ⟨rfl,hv⟩
  · rw [hv] at HV6
    have HES:=hJ ((eqSch_iff N N).2 rfl);clear hv
    go_wp2_with fail
    refine (HV6.out).mono ?_;rintro e w12 ⟨rfl,hb12⟩;have k0:=kAF z0 _ hb12;have k1:=kAF z1 _ hb12;have k2:=kAF z2 _ hb12;have k3:=kAF z3 _ hb12;have k4:=kAF z4 _ hb12;have m0:=kAF s0 _ hb12;have m1:=kAF s1 _ hb12;have m2:=kAF s2 _ hb12;have m3:=kAF s3 _ hb12;have m4:=kAF s4 _ hb12;have HE3:=hJ (HES.out ▸ kE9 (RSch.below HRN.out hb12) (RSch.below HR2.out (HW11.out.trans (hb12.mono HW11.out.size))) HNl.out HNl.out);clear s0 s1 s2 s3 s4 z0 z1 z2 z3 z4
    go_wp2_with fail
    refine (HE3.out).mono ?_;rintro e w13 ⟨rfl,hb13⟩
    go_wp2_with fail
    go_meet
    exact ⟨rfl,hJ (hb12.trans (hb13.mono hb12.size))⟩
  · rw [hv] at HV6
    clear hv
    go_wp2_with fail
    refine (HV6.out).mono ?_;rintro e w12 ⟨rfl,hb12⟩
    go_wp2_with fail
    go_meet
    exact ⟨rfl,hJ hb12⟩
 case rest =>
 rename World=>w14
 obtain ⟨rfl,hbr⟩:=hcut;have HW14:=hJ (HW11.out.trans (hbr.out.mono HW11.out.size));have HX14:=hJ (HX11.out.below hbr.out HX11.out.lt);have HPA14:=hJ (HPA11.out.below hbr.out HPA11.out.lt);have HRA14:=hJ (RTyp.below HRA11.out hbr.out);clear hbr HW11 HX11 HS11 HPA11 HRA11 HPN HRN HV6 z0 z1 z2 z3 z4 s0 s1 s2 s3 s4 HNn HC6 HCl HNl;have hsm:=HSm.out;clear HSm;rcases hsm with ⟨rfl,hv1,hv2,rfl⟩ | hne
 · have HSv:=hJ (HSv.out hv1 hv2)
   clear hv1 hv2;have p0:=HPA14.out.cell 0 _ rfl;have p1:=HPA14.out.cell 1 _ rfl;have p2:=HPA14.out.cell 2 _ rfl;have HTv:=hJ (kH2 HRA14.out HAz.out (HE.out _ HW14.out).env);generalize kAS l x=A at *
   go_wp2_with fail
   refine HTv.out.mono ?_;rintro e w15 ⟨⟨v15,rfl,hown⟩,hb⟩;obtain ⟨av,cv,rfl,hsv⟩:=hown.sl;have HVs:=hJ hsv.all;have HW15:=hJ (HW14.out.trans (hb.mono HW14.out.size));have HX15:=hJ (HX14.out.below hb HX14.out.lt);clear hown hsv hb HTv HPA14 HRA14 HX14 HW14 p0 p1 p2 HAz;have HFv:=hJ (fun (W:World) (hW:Below w.heap.size w W)=>gives_vars (ref12_TypeVars (RTyp.below HR1.out hW) HSx.out))
   have HLv:Hid (IsVars l (.slice a0 nl c0) w):=hJ (by
    have e:=HR3.out.len;subst e;exact ⟨a0,c0,rfl,HR3.out.all⟩)
   have HFl:=hJ (fun (W:World) (hW:Below w.heap.size w W) (k:Int) (v:Str)=>find_gives (HLv.out.below hW) k v);have hn1:=HVs.out.small;have HVe:Hid (∀ z:Bnd,fnd1 x l z=(decide (0≤kAU (kA6 x) z.kind z.v) && decide (kAU l z.kind z.v<0))):=hJ (fun z=>rfl);generalize kA6 A=L at *;generalize kA6 x=V at *;clear HLv
   go_wp2_with fail
   go_loopw [110] (fun i wr=>∃ k:Nat,k≤L.length∧i= .int .i64 k∧Below w15.heap.size w15 wr) (fun i _=>L.length - (intOf i).toNat)
   case atStart=>exact ⟨0,Nat.zero_le _,rfl,Below.refl _ _⟩
   case round =>
    obtain ⟨k,hk,rfl,hB⟩:=hrel;by_cases hlt:k<L.length
    · obtain ⟨bv,ov,rfl,hbv,_⟩:=HVs.out.form k hlt
      obtain ⟨td,dd,hr,⟨⟨at1,ct1,rfl,hts⟩,⟨ad1,cd1,rfl,hrd⟩⟩,e0,e1,e2,e3,e4,e5,e6⟩:=(HVs.out.below hB).bnd k hlt;have HIn:=hJ (HSv.out _ (kAJ hlt));have HWr:=hJ (HW15.out.trans (hB.mono HW15.out.size));have HXr:=hJ (HX15.out.below hB HX15.out.lt);clear hr hts hrd;generalize L.getD k default=z at *;obtain ⟨HB0,hz0,hs0⟩:=box1 wr 47 [.int .i64 z.kind,.string z.v,.int .i64 z.dim.const,.slice at1 z.dim.terms.length ct1,.string z.row.row,.slice ad1 z.row.dims.length cd1,.string z.elem];have HZ0:Hid (Bx _ _ _ _):=hJ hz0;have HW0:=hJ (HWr.out.trans (HB0.out.mono HWr.out.size));have HX0:=hJ (HXr.out.below HB0.out HXr.out.lt);have hBr:=hJ (hB.trans (HB0.out.mono hB.size));have hwl:wr.heap.size<(wr.alloc (.cells #[.int .i64 z.kind,.string z.v,.int .i64 z.dim.const,.slice at1 z.dim.terms.length ct1,.string z.row.row,.slice ad1 z.row.dims.length cd1,.string z.elem] 47)).heap.size:=by rw [hs0];exact Nat.lt_succ_self _
      clear hz0 hs0
      go_upto_region 17 with fail
      generalize (wr.alloc (.cells #[.int .i64 z.kind,.string z.v,.int .i64 z.dim.const,.slice at1 z.dim.terms.length ct1,.string z.row.row,.slice ad1 z.row.dims.length cd1,.string z.elem] 47))=W0 at *;clear e0 e1 e2 e3 e4 e5 e6;have x0:=HX0.out.cell 0 _ rfl;have x1:=HX0.out.cell 1 _ rfl;have x2:=HX0.out.cell 2 _ rfl;have z0:=HZ0.out.cell 0 _ rfl;have z1:=HZ0.out.cell 1 _ rfl;have HB1:=hJ (fun (W:World) (hW:Below W0.heap.size W0 W)=>HW0.out.trans (hW.mono HW0.out.size))
      go_cut [19] (fun v W=>v= .bool (fnd1 x l z)∧Hid (Below W0.heap.size W0 W))
      case first =>
       have HQ:Hid (fnd1 x l z=(decide (0≤kAU V z.kind z.v) && decide (kAU l z.kind z.v<0))):=hJ (HVe.out z);clear HIn HSv HSl HR3;generalize fnd1 x l z=fz at *;refine wp_region_held_drew (S:=fun W=>Below W0.heap.size W0 W) (by kernel_rfl) ((Below.refl W0.heap.size W0).drew) (fun hHeld=>?_);refine wpAnyH_take (i:=0) (v:=?_) rfl (by kernel_rfl) (by kernel_rfl) (by kernel_rfl) (fun _ _ _ h=>h) (Or.inl ⟨by kernel_rfl,?_⟩) hHeld ?_
       rotate_left
       · (intro W hSw;have j0:=kAF x0 _ hSw;have j1:=kAF x1 _ hSw;have j2:=kAF x2 _ hSw;clear hSw;go_simp;first | done | (with_reducible rfl))
       simp only [Act.put,List.getElem_toArray,List.getElem_cons_zero,List.getElem_cons_succ,List.setIfInBounds_toArray,List.set_cons_zero,List.set_cons_succ];refine wpAnyH_take (i:=2) (v:=?_) rfl (by kernel_rfl) (by kernel_rfl) (by kernel_rfl) (fun _ _ _ h=>h) (Or.inl ⟨by kernel_rfl,?_⟩) hHeld ?_
       rotate_left
       · (intro W hSw;skip;clear hSw;go_simp;first | done | (with_reducible rfl))
       simp only [Act.put,List.getElem_toArray,List.getElem_cons_zero,List.getElem_cons_succ,List.setIfInBounds_toArray,List.set_cons_zero,List.set_cons_succ];refine wpAnyH_take (i:=3) (v:=?_) rfl (by kernel_rfl) (by kernel_rfl) (by kernel_rfl) (fun _ _ _ h=>h) (Or.inl ⟨by kernel_rfl,?_⟩) hHeld ?_
       rotate_left
       · (intro W hSw;have j0:=kAF z0 _ hSw;clear hSw;go_simp;first | done | (with_reducible rfl))
       simp only [Act.put,List.getElem_toArray,List.getElem_cons_zero,List.getElem_cons_succ,List.setIfInBounds_toArray,List.set_cons_zero,List.set_cons_succ];refine wpAnyH_take (i:=4) (v:=?_) rfl (by kernel_rfl) (by kernel_rfl) (by kernel_rfl) (fun _ _ _ h=>h) (Or.inl ⟨by kernel_rfl,?_⟩) hHeld ?_
       rotate_left
       · (intro W hSw;skip;clear hSw;go_simp;first | done | (with_reducible rfl))
       simp only [Act.put,List.getElem_toArray,List.getElem_cons_zero,List.getElem_cons_succ,List.setIfInBounds_toArray,List.set_cons_zero,List.set_cons_succ];refine wpAnyH_take (i:=5) (v:=?_) rfl (by kernel_rfl) (by kernel_rfl) (by kernel_rfl) (fun _ _ _ h=>h) (Or.inl ⟨by kernel_rfl,?_⟩) hHeld ?_
       rotate_left
       · (intro W hSw;have j0:=kAF z1 _ hSw;clear hSw;go_simp;first | done | (with_reducible rfl))
       simp only [Act.put,List.getElem_toArray,List.getElem_cons_zero,List.getElem_cons_succ,List.setIfInBounds_toArray,List.set_cons_zero,List.set_cons_succ];refine kD7 1 (R:=(IsVars V)) rfl (by kernel_rfl) (by kernel_rfl) (fun _=>by kernel_rfl) (HFv.out _ (HB1.out _ hHeld)) hHeld ?_;clear hHeld;rintro vv Wa hvv _ hHeld;simp only [Act.put,List.getElem_toArray,List.getElem_cons_zero,List.getElem_cons_succ,List.setIfInBounds_toArray,List.set_cons_zero,List.set_cons_succ];refine kD7 6 (R:=(fun u _=>u= .int .i64 (kAU V z.kind z.v))) rfl (by kernel_rfl) (by kernel_rfl) (fun _=>by kernel_rfl) (find_gives hvv z.kind z.v) hHeld ?_;clear hHeld;rintro _ Wb rfl _ hHeld;simp only [Act.put,List.getElem_toArray,List.getElem_cons_zero,List.getElem_cons_succ,List.setIfInBounds_toArray,List.set_cons_zero,List.set_cons_succ];by_cases h7:0≤kAU V z.kind z.v
       · refine wpAnyH_take (i:=7) (v:=.bool true) rfl (by kernel_rfl) (by kernel_rfl) (by kernel_rfl) (fun _ _ _ h=>h) (Or.inl ⟨by kernel_rfl,?_⟩) hHeld ?_
         · intro W hSw;clear hSw;go_simp;first | done | (simp;done) | (simp [h7];done) | (simp [h7];omega)
         simp only [Act.put,List.getElem_toArray,List.getElem_cons_zero,List.getElem_cons_succ,List.setIfInBounds_toArray,List.set_cons_zero,List.set_cons_succ];refine wpAnyH_take (i:=8) (v:=?_) rfl (by kernel_rfl) (by kernel_rfl) (by kernel_rfl) (fun _ _ _ h=>h) (Or.inl ⟨by kernel_rfl,?_⟩) hHeld ?_
         rotate_left
         · (intro W hSw;skip;clear hSw;go_simp;first | done | (with_reducible rfl))
         simp only [Act.put,List.getElem_toArray,List.getElem_cons_zero,List.getElem_cons_succ,List.setIfInBounds_toArray,List.set_cons_zero,List.set_cons_succ];refine wpAnyH_take (i:=9) (v:=?_) rfl (by kernel_rfl) (by kernel_rfl) (by kernel_rfl) (fun _ _ _ h=>h) (Or.inl ⟨by kernel_rfl,?_⟩) hHeld ?_
         rotate_left
         · (intro W hSw;skip;clear hSw;go_simp;first | done | (with_reducible rfl))
         simp only [Act.put,List.getElem_toArray,List.getElem_cons_zero,List.getElem_cons_succ,List.setIfInBounds_toArray,List.set_cons_zero,List.set_cons_succ];refine wpAnyH_take (i:=10) (v:=?_) rfl (by kernel_rfl) (by kernel_rfl) (by kernel_rfl) (fun _ _ _ h=>h) (Or.inl ⟨by kernel_rfl,?_⟩) hHeld ?_
         rotate_left
         · (intro W hSw;skip;clear hSw;go_simp;first | done | (with_reducible rfl))
         simp only [Act.put,List.getElem_toArray,List.getElem_cons_zero,List.getElem_cons_succ,List.setIfInBounds_toArray,List.set_cons_zero,List.set_cons_succ];refine wpAnyH_take (i:=11) (v:=?_) rfl (by kernel_rfl) (by kernel_rfl) (by kernel_rfl) (fun _ _ _ h=>h) (Or.inl ⟨by kernel_rfl,?_⟩) hHeld ?_
         rotate_left
         · (intro W hSw;have j0:=kAF z0 _ hSw;clear hSw;go_simp;first | done | (with_reducible rfl))
         simp only [Act.put,List.getElem_toArray,List.getElem_cons_zero,List.getElem_cons_succ,List.setIfInBounds_toArray,List.set_cons_zero,List.set_cons_succ];refine wpAnyH_take (i:=12) (v:=?_) rfl (by kernel_rfl) (by kernel_rfl) (by kernel_rfl) (fun _ _ _ h=>h) (Or.inl ⟨by kernel_rfl,?_⟩) hHeld ?_
         rotate_left
         · (intro W hSw;skip;clear hSw;go_simp;first | done | (with_reducible rfl))
         simp only [Act.put,List.getElem_toArray,List.getElem_cons_zero,List.getElem_cons_succ,List.setIfInBounds_toArray,List.set_cons_zero,List.set_cons_succ];refine wpAnyH_take (i:=13) (v:=?_) rfl (by kernel_rfl) (by kernel_rfl) (by kernel_rfl) (fun _ _ _ h=>h) (Or.inl ⟨by kernel_rfl,?_⟩) hHeld ?_
         rotate_left
         · (intro W hSw;have j0:=kAF z1 _ hSw;clear hSw;go_simp;first | done | (with_reducible rfl))
         simp only [Act.put,List.getElem_toArray,List.getElem_cons_zero,List.getElem_cons_succ,List.setIfInBounds_toArray,List.set_cons_zero,List.set_cons_succ];refine kD7 14 (R:=(fun u _=>u= .int .i64 (kAU l z.kind z.v))) rfl (by kernel_rfl) (by kernel_rfl) (fun _=>by kernel_rfl) (HFl.out _ (HB1.out _ hHeld) z.kind z.v) hHeld ?_;clear hHeld;rintro _ Wc rfl _ hHeld;simp only [Act.put,List.getElem_toArray,List.getElem_cons_zero,List.getElem_cons_succ,List.setIfInBounds_toArray,List.set_cons_zero,List.set_cons_succ];have hq:fz=decide (kAU l z.kind z.v<0):=by rw [HQ.out,decide_eq_true h7,Bool.true_and]
         refine wpAnyH_take (i:=15) (v:=?_) rfl (by kernel_rfl) (by kernel_rfl) (by kernel_rfl) (fun _ _ _ h=>h) (Or.inl ⟨by kernel_rfl,?_⟩) hHeld ?_
         rotate_left
         · (intro W hSw;skip;clear hSw;go_simp;first | done | (with_reducible rfl))
         simp only [Act.put,List.getElem_toArray,List.getElem_cons_zero,List.getElem_cons_succ,List.setIfInBounds_toArray,List.set_cons_zero,List.set_cons_succ];refine wpAnyH_take (i:=16) (v:=?_) rfl (by kernel_rfl) (by kernel_rfl) (by kernel_rfl) (fun _ _ _ h=>h) (Or.inl ⟨by kernel_rfl,?_⟩) hHeld ?_
         rotate_left
         · (intro W hSw;skip;clear hSw;go_simp;first | done | (with_reducible rfl))
         simp only [Act.put,List.getElem_toArray,List.getElem_cons_zero,List.getElem_cons_succ,List.setIfInBounds_toArray,List.set_cons_zero,List.set_cons_succ];refine wpAnyH_take (i:=17) (v:=?_) rfl (by kernel_rfl) (by kernel_rfl) (by kernel_rfl) (fun _ _ _ h=>h) (Or.inl ⟨by kernel_rfl,?_⟩) hHeld ?_
         rotate_left
         · (intro W hSw;skip;clear hSw;go_simp;first | done | (with_reducible rfl))
         simp only [Act.put,List.getElem_toArray,List.getElem_cons_zero,List.getElem_cons_succ,List.setIfInBounds_toArray,List.set_cons_zero,List.set_cons_succ];refine wpAnyH_done (by kernel_rfl) ?_ _
         go_wp2_with fail
         go_meet
         exact ⟨by rw [hq],hJ hHeld⟩
       · refine wpAnyH_take (i:=7) (v:=.bool false) rfl (by kernel_rfl) (by kernel_rfl) (by kernel_rfl) (fun _ _ _ h=>h) (Or.inl ⟨by kernel_rfl,?_⟩) hHeld ?_
         · intro W hSw;clear hSw;go_simp;first | done | (simp;done) | (simp [h7];done) | (simp [h7];omega)
         simp only [Act.put,List.getElem_toArray,List.getElem_cons_zero,List.getElem_cons_succ,List.setIfInBounds_toArray,List.set_cons_zero,List.set_cons_succ];refine wpAnyH_take (i:=8) (v:=?_) rfl (by kernel_rfl) (by kernel_rfl) (by kernel_rfl) (fun _ _ _ h=>h) (Or.inl ⟨by kernel_rfl,?_⟩) hHeld ?_
         rotate_left
         · (intro W hSw;skip;clear hSw;go_simp;first | done | (with_reducible rfl))
         simp only [Act.put,List.getElem_toArray,List.getElem_cons_zero,List.getElem_cons_succ,List.setIfInBounds_toArray,List.set_cons_zero,List.set_cons_succ];refine wpAnyH_take (i:=9) (v:=undef) rfl (by kernel_rfl) (by kernel_rfl) (by kernel_rfl) (fun _ _ _ h=>h) (Or.inr ⟨by kernel_rfl,rfl⟩) hHeld ?_;simp only [Act.put,List.getElem_toArray,List.getElem_cons_zero,List.getElem_cons_succ,List.setIfInBounds_toArray,List.set_cons_zero,List.set_cons_succ];refine wpAnyH_take (i:=10) (v:=undef) rfl (by kernel_rfl) (by kernel_rfl) (by kernel_rfl) (fun _ _ _ h=>h) (Or.inr ⟨by kernel_rfl,rfl⟩) hHeld ?_;simp only [Act.put,List.getElem_toArray,List.getElem_cons_zero,List.getElem_cons_succ,List.setIfInBounds_toArray,List.set_cons_zero,List.set_cons_succ];refine wpAnyH_take (i:=11) (v:=undef) rfl (by kernel_rfl) (by kernel_rfl) (by kernel_rfl) (fun _ _ _ h=>h) (Or.inr ⟨by kernel_rfl,rfl⟩) hHeld ?_;simp only [Act.put,List.getElem_toArray,List.getElem_cons_zero,List.getElem_cons_succ,List.setIfInBounds_toArray,List.set_cons_zero,List.set_cons_succ];refine wpAnyH_take (i:=12) (v:=undef) rfl (by kernel_rfl) (by kernel_rfl) (by kernel_rfl) (fun _ _ _ h=>h) (Or.inr ⟨by kernel_rfl,rfl⟩) hHeld ?_;simp only [Act.put,List.getElem_toArray,List.getElem_cons_zero,List.getElem_cons_succ,List.setIfInBounds_toArray,List.set_cons_zero,List.set_cons_succ];refine wpAnyH_take (i:=13) (v:=undef) rfl (by kernel_rfl) (by kernel_rfl) (by kernel_rfl) (fun _ _ _ h=>h) (Or.inr ⟨by kernel_rfl,rfl⟩) hHeld ?_;simp only [Act.put,List.getElem_toArray,List.getElem_cons_zero,List.getElem_cons_succ,List.setIfInBounds_toArray,List.set_cons_zero,List.set_cons_succ];refine wpAnyH_take (i:=14) (v:=undef) rfl (by kernel_rfl) (by kernel_rfl) (by kernel_rfl) (fun _ _ _ h=>h) (Or.inr ⟨by kernel_rfl,rfl⟩) hHeld ?_;simp only [Act.put,List.getElem_toArray,List.getElem_cons_zero,List.getElem_cons_succ,List.setIfInBounds_toArray,List.set_cons_zero,List.set_cons_succ];refine wpAnyH_take (i:=15) (v:=undef) rfl (by kernel_rfl) (by kernel_rfl) (by kernel_rfl) (fun _ _ _ h=>h) (Or.inr ⟨by kernel_rfl,rfl⟩) hHeld ?_;simp only [Act.put,List.getElem_toArray,List.getElem_cons_zero,List.getElem_cons_succ,List.setIfInBounds_toArray,List.set_cons_zero,List.set_cons_succ];have hq:fz=false:=by rw [HQ.out,decide_eq_false h7,Bool.false_and]
         refine wpAnyH_take (i:=16) (v:=?_) rfl (by kernel_rfl) (by kernel_rfl) (by kernel_rfl) (fun _ _ _ h=>h) (Or.inl ⟨by kernel_rfl,?_⟩) hHeld ?_
         rotate_left
         · (intro W hSw;skip;clear hSw;go_simp;first | done | (with_reducible rfl))
         simp only [Act.put,List.getElem_toArray,List.getElem_cons_zero,List.getElem_cons_succ,List.setIfInBounds_toArray,List.set_cons_zero,List.set_cons_succ];refine wpAnyH_take (i:=17) (v:=?_) rfl (by kernel_rfl) (by kernel_rfl) (by kernel_rfl) (fun _ _ _ h=>h) (Or.inl ⟨by kernel_rfl,?_⟩) hHeld ?_
         rotate_left
         · (intro W hSw;skip;clear hSw;go_simp;first | done | (with_reducible rfl))
         simp only [Act.put,List.getElem_toArray,List.getElem_cons_zero,List.getElem_cons_succ,List.setIfInBounds_toArray,List.set_cons_zero,List.set_cons_succ];refine wpAnyH_done (by kernel_rfl) ?_ _
         go_wp2_with fail
         go_meet
         exact ⟨by rw [hq],hJ hHeld⟩
      case rest =>
      rename World=>W1
      obtain ⟨rfl,hb01⟩:=hcut;have HW1:=hJ (HB1.out _ hb01.out);have HX1:=hJ (HX0.out.below hb01.out HX0.out.lt);have HZ1:=hJ (HZ0.out.below hb01.out HZ0.out.lt);have hB1:=hJ (hBr.out.trans (hb01.out.mono hBr.out.size));clear hb01 HB1 HX0 HZ0 HW0 hBr x0 x1 x2 z0 z1 HVe HFv HSv HB0 HWr HXr;have HF0:Hid (fnd1 x l z=(fnd1 x l z || (l.take 0).any (fnd2 z))):=hJ (by rw [List.take_zero,List.any_nil,Bool.or_false]);generalize fnd1 x l z=F at *
      go_wp2_with fail
      go_loopg [133,19] (nl+1) (fun gk i f wi=>∃ j:Nat,j+gk=nl+1∧j≤nl∧i= .int .i64 j∧f= .bool (F || (l.take j).any (fnd2 z))∧Below W1.heap.size W1 wi)
      case atStart=>exact ⟨0,by omega,Nat.zero_le _,rfl,congrArg Value.bool HF0.out,Below.refl _ _⟩
      case round =>
       rename World=>wi
       obtain ⟨j,hjg,hj,rfl,rfl,hB2⟩:=hrel;have HWi:=hJ (HW1.out.trans (hB2.mono HW1.out.size));have HZi:=hJ (HZ1.out.below hB2 HZ1.out.lt);by_cases hjl:j<nl
       · obtain ⟨bl,ol,rfl,hbl,_⟩:=HR3.out.form j hjl
         obtain ⟨tdd,ddd,hr,⟨⟨at2,ct2,rfl,hts⟩,⟨ad2,cd2,rfl,hrd⟩⟩,f0,f1,f2,f3,f4,f5,f6⟩:=(HR3.out.below HWi.out).bnd j hjl;have HJ:Hid (j<l.length):=hJ (by rw [HR3.out.len];exact hjl);have HYz:=hJ (HSl.out.1 _ (kAJ HJ.out));have HNext:Hid ((l.take (j+1)).any (fnd2 z)=((l.take j).any (fnd2 z) || fnd2 z (l.getD j default))):=hJ (by rw [kAY HJ.out,List.any_append,List.any_cons,List.any_nil,Bool.or_false]);have HTs:=hJ hts;have HRd:=hJ hrd;clear hr hts hrd;generalize l.getD j default=y at *;generalize (l.take j).any (fnd2 z)=G at *;obtain ⟨HB0,hy0,hs0⟩:=box1 wi 47 [.int .i64 y.kind,.string y.v,.int .i64 y.dim.const,.slice at2 y.dim.terms.length ct2,.string y.row.row,.slice ad2 y.row.dims.length cd2,.string y.elem];have HY0:Hid (Bx _ _ _ _):=hJ hy0;have HW2:=hJ (HWi.out.trans (HB0.out.mono HWi.out.size));have HZ2:=hJ (HZi.out.below HB0.out HZi.out.lt);have hB22:=hJ (hB2.trans (HB0.out.mono hB2.size));have HTs2:=hJ (HTs.out.below HB0.out);have HRd2:=hJ (HRd.out.below HB0.out);clear hy0 hs0 HTs HRd
         go_upto_region 21 with fail
         generalize (wi.alloc (.cells #[.int .i64 y.kind,.string y.v,.int .i64 y.dim.const,.slice at2 y.dim.terms.length ct2,.string y.row.row,.slice ad2 y.row.dims.length cd2,.string y.elem] 47))=W2 at *;clear f0 f1 f2 f3 f4 f5 f6;have y2:=HY0.out.cell 2 _ rfl;have y3:=HY0.out.cell 3 _ rfl;have y4:=HY0.out.cell 4 _ rfl;have y5:=HY0.out.cell 5 _ rfl;have HV1:=hJ (fun (W:World) (hW:Below W2.heap.size W2 W)=>gives_own (n0:=W2.heap.size) hW.size (kGU (S:=S3) (s:=y.row) (cs:=[.string y.row.row,.slice ad2 y.row.dims.length cd2]) (w:=W) ⟨_,rfl,ad2,cd2,rfl,HRd2.out.below hW⟩ HYz.out.2.2.2));have HOz:Hid (szH ⟨⟨#[]⟩,[y.dim]⟩):=hJ ⟨(by decide:(0:Nat)≤10000),fun q hq=>by rw [List.mem_singleton.1 hq];exact HYz.out.2.2.1⟩
         go_cut [22] (fun v W=>IsVars (kHU y) v W∧Hid (Below W2.heap.size W2 W))
         case first =>
          clear HIn HSl HR3 HFl HNext;refine wp_region_held_drew (S:=fun W=>Below W2.heap.size W2 W) (by kernel_rfl) ((Below.refl W2.heap.size W2).drew) (fun hHeld=>?_);refine wpAnyH_take (i:=0) (v:=?_) rfl (by kernel_rfl) (by kernel_rfl) (by kernel_rfl) (fun _ _ _ h=>h) (Or.inl ⟨by kernel_rfl,?_⟩) hHeld ?_
          rotate_left
          · (intro W hSw;skip;clear hSw;go_simp;first | done | (with_reducible rfl))
          simp only [Act.put,List.getElem_toArray,List.getElem_cons_zero,List.getElem_cons_succ,List.setIfInBounds_toArray,List.set_cons_zero,List.set_cons_succ];refine wpAnyH_take (i:=1) (v:=?_) rfl (by kernel_rfl) (by kernel_rfl) (by kernel_rfl) (fun _ _ _ h=>h) (Or.inl ⟨by kernel_rfl,?_⟩) hHeld ?_
          rotate_left
          · (intro W hSw;have j0:=kAF y4 _ hSw;have j1:=kAF y5 _ hSw;clear hSw;go_simp;first | done | (with_reducible rfl))
          simp only [Act.put,List.getElem_toArray,List.getElem_cons_zero,List.getElem_cons_succ,List.setIfInBounds_toArray,List.set_cons_zero,List.set_cons_succ];refine wpAnyH_take (i:=3) (v:=?_) rfl (by kernel_rfl) (by kernel_rfl) (by kernel_rfl) (fun _ _ _ h=>h) (Or.inl ⟨by kernel_rfl,?_⟩) hHeld ?_
          rotate_left
          · (intro W hSw;skip;clear hSw;go_simp;first | done | (with_reducible rfl))
          simp only [Act.put,List.getElem_toArray,List.getElem_cons_zero,List.getElem_cons_succ,List.setIfInBounds_toArray,List.set_cons_zero,List.set_cons_succ];refine wpAnyH_take (i:=4) (v:=?_) rfl (by kernel_rfl) (by kernel_rfl) (by kernel_rfl) (fun _ _ _ h=>h) (Or.inl ⟨by kernel_rfl,?_⟩) hHeld ?_
          rotate_left
          · (intro W hSw;have j0:=kAF y2 _ hSw;have j1:=kAF y3 _ hSw;clear hSw;go_simp;first | done | (with_reducible rfl))
          simp only [Act.put,List.getElem_toArray,List.getElem_cons_zero,List.getElem_cons_succ,List.setIfInBounds_toArray,List.set_cons_zero,List.set_cons_succ];refine wpAnyH_ready (rs:=[2,5]) (by kernel_rfl) (by simp) ?_;refine AllReadyH.cons rfl (fun K hK=>?_) (AllReadyH.cons rfl (fun K hK=>?_) AllReadyH.nil)
          · rw [if_pos (by kernel_rfl)]
            refine wp_call (R:=fun v W=>OwnV W2.heap.size (kBV y.row) v W∧Below W2.drew.heap.size W2.drew W) (by kernel_rfl) (HV1.out W2.drew hHeld) (fun v2 Wa hv=>?_);obtain ⟨hv2,hb2⟩:=hv;have hH2:=below_on hHeld hb2;refine hK.out _ _ hH2 fun hHeld=>?_
            clear hK K;simp only [Act.put,List.getElem_toArray,List.getElem_cons_zero,List.getElem_cons_succ,List.setIfInBounds_toArray,List.set_cons_zero,List.set_cons_succ];refine wpAnyH_ready (rs:=[5]) (by kernel_rfl) (by simp) ?_;refine AllReadyH.cons rfl (fun K hK=>?_) AllReadyH.nil
            go_simp
            have hal:=hHeld.alloc hHeld.size (.cells #[.int .i64 y.dim.const,.slice at2 y.dim.terms.length ct2] 45);have HSg:=hJ (Bx.fresh Wa 45 [.int .i64 y.dim.const,.slice at2 y.dim.terms.length ct2]);refine hK.out _ _ hal fun hH2=>?_
            clear hK K
            try simp only [Act.put,List.getElem_toArray,List.getElem_cons_zero,List.getElem_cons_succ,List.setIfInBounds_toArray,List.set_cons_zero,List.set_cons_succ]
            have hv2:=hv2.below ((Below.refl Wa.heap.size Wa).alloc (Nat.le_refl _) (.cells #[.int .i64 y.dim.const,.slice at2 y.dim.terms.length ct2] 45));have hHeld:=hH2;refine wpAnyH_take (i:=6) (v:=?_) rfl (by kernel_rfl) (by kernel_rfl) (by kernel_rfl) (fun _ _ _ h=>h) (Or.inl ⟨by kernel_rfl,?_⟩) hHeld ?_
            rotate_left
            · (intro W hSw;skip;clear hSw;go_simp;first | done | (with_reducible rfl))
            simp only [Act.put,List.getElem_toArray,List.getElem_cons_zero,List.getElem_cons_succ,List.setIfInBounds_toArray,List.set_cons_zero,List.set_cons_succ];refine kD7 7 (R:=OwnV W2.heap.size (kBV ⟨⟨#[]⟩,[y.dim]⟩)) rfl (by kernel_rfl) (by kernel_rfl) (fun _=>by kernel_rfl) (gives_own hHeld.size (kGU (S:=All) (s:=⟨⟨#[]⟩,[y.dim]⟩) (cs:=[.string ⟨#[]⟩,.slice (some ⟨Wa.heap.size,0,none⟩) 1 1]) ⟨_,rfl,_,_,rfl,Sl.single HSg.out ⟨_,rfl,at2,ct2,rfl,(HTs2.out.below hHeld).all⟩ trivial⟩ HOz.out)) hHeld ?_;clear hHeld;rintro v7 W7 hv7 hb7 hHeld;simp only [Act.put,List.getElem_toArray,List.getElem_cons_zero,List.getElem_cons_succ,List.setIfInBounds_toArray,List.set_cons_zero,List.set_cons_succ];have hv2:=hv2.below hb7;refine wpAnyH_ready (rs:=[8]) (by kernel_rfl) (by simp) ?_;refine AllReadyH.cons rfl (fun K hK=>?_) AllReadyH.nil;obtain ⟨B1,q1,q2,hown1⟩:=hv2;obtain ⟨B3,q3,q4,hown3⟩:=hv7;obtain ⟨a11,m11,c11,rfl⟩:=hown1.shape;obtain ⟨a12,c12,rfl,hels⟩:=hown3.els;have hle1:=kEA y.row;have hle2:=kEA ⟨⟨#[]⟩,[y.dim]⟩;refine step_el kDU rfl (.tmp 139) (.tmp 144) rfl B1 _ (kBV y.row) (kBV ⟨⟨#[]⟩,[y.dim]⟩) rfl hown1 a12 _ c12 rfl (hels.mono (fun q hq _=>absurd hq.1 id)) (by omega) (by unfold maxLen;omega) q2 ?_;intro v9 w9 hown9 hb9 _;have hH9:=hHeld.trans (hb9.mono q1);refine hK.out _ _ hH9 fun hHeld=>?_
            clear hK K;simp only [Act.put,List.getElem_toArray,List.getElem_cons_zero,List.getElem_cons_succ,List.setIfInBounds_toArray,List.set_cons_zero,List.set_cons_succ];refine wpAnyH_take (i:=9) (v:=?_) rfl (by kernel_rfl) (by kernel_rfl) (by kernel_rfl) (fun _ _ _ h=>h) (Or.inl ⟨by kernel_rfl,?_⟩) hHeld ?_
            rotate_left
            · (intro W hSw;skip;clear hSw;go_simp;first | done | (with_reducible rfl))
            simp only [Act.put,List.getElem_toArray,List.getElem_cons_zero,List.getElem_cons_succ,List.setIfInBounds_toArray,List.set_cons_zero,List.set_cons_succ];refine wpAnyH_done (by kernel_rfl) ?_ _;obtain ⟨a13,c13,rfl,hs13⟩:=hown9.sl
            go_wp2_with fail
            go_meet
            exact ⟨⟨a13,c13,rfl,hs13.all⟩,hJ hHeld⟩
          · go_simp
            have hal:=hHeld.alloc hHeld.size (.cells #[.int .i64 y.dim.const,.slice at2 y.dim.terms.length ct2] 45);have HSg:=hJ (Bx.fresh W2.drew 45 [.int .i64 y.dim.const,.slice at2 y.dim.terms.length ct2]);refine hK.out _ _ hal fun hH2=>?_
            clear hK K
            try simp only [Act.put,List.getElem_toArray,List.getElem_cons_zero,List.getElem_cons_succ,List.setIfInBounds_toArray,List.set_cons_zero,List.set_cons_succ]
            have hHeld:=hH2;refine wpAnyH_take (i:=6) (v:=?_) rfl (by kernel_rfl) (by kernel_rfl) (by kernel_rfl) (fun _ _ _ h=>h) (Or.inl ⟨by kernel_rfl,?_⟩) hHeld ?_
            rotate_left
            · (intro W hSw;skip;clear hSw;go_simp;first | done | (with_reducible rfl))
            simp only [Act.put,List.getElem_toArray,List.getElem_cons_zero,List.getElem_cons_succ,List.setIfInBounds_toArray,List.set_cons_zero,List.set_cons_succ];refine kD7 2 (R:=OwnV W2.heap.size (kBV y.row)) rfl (by kernel_rfl) (by kernel_rfl) (fun _=>by kernel_rfl) (HV1.out _ hHeld) hHeld ?_;clear hHeld;rintro v2 Wa hv2 hb2 hHeld;simp only [Act.put,List.getElem_toArray,List.getElem_cons_zero,List.getElem_cons_succ,List.setIfInBounds_toArray,List.set_cons_zero,List.set_cons_succ];have HSg:=hJ (HSg.out.below hb2 HSg.out.lt);refine kD7 7 (R:=OwnV W2.heap.size (kBV ⟨⟨#[]⟩,[y.dim]⟩)) rfl (by kernel_rfl) (by kernel_rfl) (fun _=>by kernel_rfl) (gives_own hHeld.size (kGU (S:=All) (s:=⟨⟨#[]⟩,[y.dim]⟩) (cs:=[.string ⟨#[]⟩,.slice (some ⟨W2.drew.heap.size,0,none⟩) 1 1]) ⟨_,rfl,_,_,rfl,Sl.single HSg.out ⟨_,rfl,at2,ct2,rfl,(HTs2.out.below hHeld).all⟩ trivial⟩ HOz.out)) hHeld ?_;clear hHeld;rintro v7 W7 hv7 hb7 hHeld;simp only [Act.put,List.getElem_toArray,List.getElem_cons_zero,List.getElem_cons_succ,List.setIfInBounds_toArray,List.set_cons_zero,List.set_cons_succ];have hv2:=hv2.below hb7;refine wpAnyH_ready (rs:=[8]) (by kernel_rfl) (by simp) ?_;refine AllReadyH.cons rfl (fun K hK=>?_) AllReadyH.nil;obtain ⟨B1,q1,q2,hown1⟩:=hv2;obtain ⟨B3,q3,q4,hown3⟩:=hv7;obtain ⟨a11,m11,c11,rfl⟩:=hown1.shape;obtain ⟨a12,c12,rfl,hels⟩:=hown3.els;have hle1:=kEA y.row;have hle2:=kEA ⟨⟨#[]⟩,[y.dim]⟩;refine step_el kDU rfl (.tmp 139) (.tmp 144) rfl B1 _ (kBV y.row) (kBV ⟨⟨#[]⟩,[y.dim]⟩) rfl hown1 a12 _ c12 rfl (hels.mono (fun q hq _=>absurd hq.1 id)) (by omega) (by unfold maxLen;omega) q2 ?_;intro v9 w9 hown9 hb9 _;have hH9:=hHeld.trans (hb9.mono q1);refine hK.out _ _ hH9 fun hHeld=>?_
            clear hK K;simp only [Act.put,List.getElem_toArray,List.getElem_cons_zero,List.getElem_cons_succ,List.setIfInBounds_toArray,List.set_cons_zero,List.set_cons_succ];refine wpAnyH_take (i:=9) (v:=?_) rfl (by kernel_rfl) (by kernel_rfl) (by kernel_rfl) (fun _ _ _ h=>h) (Or.inl ⟨by kernel_rfl,?_⟩) hHeld ?_
            rotate_left
            · (intro W hSw;skip;clear hSw;go_simp;first | done | (with_reducible rfl))
            simp only [Act.put,List.getElem_toArray,List.getElem_cons_zero,List.getElem_cons_succ,List.setIfInBounds_toArray,List.set_cons_zero,List.set_cons_succ];refine wpAnyH_done (by kernel_rfl) ?_ _;obtain ⟨a13,c13,rfl,hs13⟩:=hown9.sl
            go_wp2_with fail
            go_meet
            exact ⟨⟨a13,c13,rfl,hs13.all⟩,hJ hHeld⟩
         case rest =>
         rename World=>W3
         obtain ⟨⟨a22,c22,rfl,hs22⟩,hb23⟩:=hcut;have HB3:=hJ (hB22.out.trans (hb23.out.mono hB22.out.size));have HZ3:=hJ (HZ2.out.below hb23.out HZ2.out.lt);have HY3:=hJ (HY0.out.below hb23.out HY0.out.lt);have z0:=HZ3.out.cell 0 _ rfl;have z1:=HZ3.out.cell 1 _ rfl;have y6:=HY3.out.cell 6 _ rfl;have HFi:=hJ (kC9 (kHU y) a22 _ c22 W3 hs22 z.kind z.v);have HN2:Hid (fnd2 z y=(decide (0≤kAU (kHU y) z.kind z.v) || (z.kind==3 && (y.elem.toList==z.v.toList)))):=hJ rfl;have HN3:Hid ((F || (l.take (j+1)).any (fnd2 z))=((F || G) || fnd2 z y)):=hJ (by rw [HNext.out,Bool.or_assoc]);clear hs22 hb23 HNext HV1 HOz HZ2 HY0 HW2 hB22 HTs2 HRd2 y2 y3 y4 y5;generalize (F || G)=H9 at *;generalize fnd2 z y=f2 at *;generalize kAU (kHU y) z.kind z.v=qf at *;generalize (kHU y).length=n22 at *;cases H9 with
         | true =>
           go_wp2_with fail
           go_roundg (gk - 1)
           case measure=>omega
           case rel=>exact ⟨j+1,by omega,by omega,by go_num,congrArg Value.bool (by rw [HN3.out,HN2.out,Bool.true_or];first | done | rfl),HB3.out⟩
         | false =>
           by_cases hq:0≤qf
           · have q1:decide (0≤qf)=true:=decide_eq_true hq
             go_wp2_with fail
             refine (HFi.out).mono ?_;rintro e _ ⟨rfl,rfl⟩
             go_wp2_with fail
             go_roundg (gk - 1)
             case measure=>omega
             case rel=>exact ⟨j+1,by omega,by omega,by go_num,congrArg Value.bool (by rw [HN3.out,HN2.out,q1];first | done | rfl),HB3.out⟩
           · have q1:decide (0≤qf)=false:=decide_eq_false hq
             clear hq;cases q2:(z.kind==3) with
             | false =>
               go_wp2_with fail
               refine (HFi.out).mono ?_;rintro e _ ⟨rfl,rfl⟩
               go_wp2_with fail
               go_roundg (gk - 1)
               case measure=>omega
               case rel=>exact ⟨j+1,by omega,by omega,by go_num,congrArg Value.bool (by rw [HN3.out,HN2.out,q1,q2];first | done | rfl),HB3.out⟩
             | true =>
               cases q3:(y.elem.toList==z.v.toList) with
               | false =>
                 go_wp2_with fail
                 refine (HFi.out).mono ?_;rintro e _ ⟨rfl,rfl⟩
                 go_wp2_with fail
                 go_roundg (gk - 1)
                 case measure=>omega
                 case rel=>exact ⟨j+1,by omega,by omega,by go_num,congrArg Value.bool (by rw [HN3.out,HN2.out,q1,q2,q3];first | done | rfl),HB3.out⟩
               | true =>
                 go_wp2_with fail
                 refine (HFi.out).mono ?_;rintro e _ ⟨rfl,rfl⟩
                 go_wp2_with fail
                 go_roundg (gk - 1)
                 case measure=>omega
                 case rel=>exact ⟨j+1,by omega,by omega,by go_num,congrArg Value.bool (by rw [HN3.out,HN2.out,q1,q2,q3];first | done | rfl),HB3.out⟩
       · obtain rfl:j=nl:=by omega
         have HT9:Hid ((F || (l.take j).any (fnd2 z))=true):=hJ (by rw [List.take_of_length_le (by rw [HR3.out.len];exact Nat.le_refl _)];exact HIn.out);rw [HT9.out];clear HIn
         go_wp2_with fail
         go_roundw
         case rel=>exact ⟨k+1,by omega,by go_num,hB1.out.trans (hB2.mono hB1.out.size)⟩
         case measure=>simp [intOf];omega
    · go_wp2_with fail
      go_ret;exact ⟨rfl,HW15.out.trans (hB.mono HW15.out.size)⟩
 · go_wp2_with fail
   go_ret;exact ⟨rfl,HW14.out⟩
theorem E6.size (e:E6):e.cs.length=6:=rfl
theorem pick6:∀ (l:List Ent) (P:Nat→E6→Prop),(∀ i x,l[i]? =some x→∃ e:E6,e.x=x∧P i e)→∃ zs:List E6,zs.map E6.x=l∧∀ i e,zs[i]? =some e→P i e
 | [],P,_=>⟨[],rfl,fun i e h=>by simp at h⟩
 | x :: l,P,h=>by
   obtain ⟨e0,he0,hp0⟩:=h 0 x rfl;obtain ⟨zs,hz,hp⟩:=pick6 l (fun i e=>P (i+1) e) (fun i y hy=>h (i+1) y (by simpa using hy));refine ⟨e0 :: zs,by rw [List.map_cons,he0,hz],fun i e hi=>?_⟩;cases i with
   | zero=>simp at hi;subst hi;exact hp0
   | succ i=>exact hp i e (by simpa using hi)
def Fit (w:World) (a:Option Addr):Prop:=∀ ad,a=some ad→∃ b off,ad=⟨b,off,none⟩∧b<w.heap.size
theorem Fit.below {w w':World} {a:Option Addr} (h:Fit w a) (hs:w.heap.size≤w'.heap.size):Fit w' a:=fun ad e=>by
 obtain ⟨b,off,e',hb⟩:=h ad e;exact ⟨b,off,e',by omega⟩
theorem Sl.e6 {S:Blk} {w:World} {a:Option Addr} {n c:Nat} {l:List Ent} (h:Sl REnt S w a n c l) (hf:Fit w a):∃ zs:List E6,zs.map E6.x=l∧Hold6 w.heap.size w (.slice a n c) zs∧∀ z ∈ zs,REnt.rd S w z.cs z.x:=by
 obtain ⟨zs,hz,hp⟩:=pick6 l (fun i e=>REnt.rd S w e.cs e.x∧∃ b off,a=some ⟨b,off,none⟩∧∀ j u,e.cs[j]? =some u→w.cell? ⟨b,off+(i * 6+j),none⟩=some u) (fun i x hx=>by
  obtain ⟨b,off,cs,ha,_,hr,hc⟩:=h.at_ i x hx;obtain ⟨e,he,rfl⟩:=E6.of hr;exact ⟨e,he,by rw [he];exact hr,b,off,ha,hc⟩)
 have hl:zs.length=n:=by rw [← h.len,← hz,List.length_map]
 refine ⟨zs,hz,?_,fun z hz'=>?_⟩
 · cases a with
   | none =>
     have h0:=h.nil rfl;have h1:=h.cap;subst h0;obtain rfl:n=0:=by omega
     exact .inl ⟨rfl,List.eq_nil_of_length_eq_zero hl⟩
   | some ad =>
     obtain ⟨b,off,rfl,hb⟩:=hf ad rfl;refine .inr ⟨b,off,c,by rw [hl],hb,fun j x hx i u hu=>?_⟩;obtain ⟨_,b',off',e',hc⟩:=hp j x hx;cases e';exact hc i u hu
 · obtain ⟨i,hi,rfl⟩:=List.getElem_of_mem hz'
   exact (hp i _ (List.getElem?_eq_getElem hi)).1
theorem Hold6.lift {n₀ n₁ :Nat} {A:World} (h:n₀ ≤n₁) {sv:Value} {zs:List E6}:Hold6 n₀ A sv zs→Hold6 n₁ A sv zs
 | .inl e=>.inl e
 | .inr ⟨b,off,cap,e,hb,hc⟩=>.inr ⟨b,off,cap,e,by omega,hc⟩
theorem Own.fit {α :Type} {R:Rep α} {E:TypeId} {S:Blk} {w:World} {base:Nat} {a:Option Addr} {n c:Nat} {l:List α} (h:Own R E S w base (.slice a n c) l):Fit w a:=fun ad e=>by
 subst e;obtain ⟨css,_,hrow,_⟩:=h.row;obtain ⟨a2,c2,hv,_,_,_,hg⟩:=kDM hrow;rw [Value.slice.injEq] at hv;obtain ⟨rfl,-,rfl⟩:=hv;obtain ⟨g,e,_,hg2⟩:=hg ad rfl;exact ⟨g,0,e,hg2⟩
theorem Own.ready {E:TypeId} {L B:Nat} {w:World} {v:Value} {l:List Ent} (h:Own REnt E (fun k=>k<L) w B v l):∃ a c,v= .slice a l.length c∧Sl REnt (fun k=>(k<L∨B≤k)∧k<w.heap.size) w a l.length c l∧Fit w a:=by
 obtain ⟨a,c,rfl,hs,hat⟩:=h.slAt;exact ⟨a,c,rfl,hs.mono (fun k hk hlt=>⟨hk.elim .inl (fun q=>.inr (hat k q).1),hlt⟩),h.fit⟩
theorem put2 {S:Blk} {W0 w1:World} {g B:Nat} {T:TypeId} {z0 z1:Value} (v0 v1:Value) {a:Option Addr} {n c:Nat} {l:List Ent} (hb:Bx W0 g T [z0,z1]) (hr:Sl REnt S W0 a n c l) (hS:∀ k,S k→k<W0.heap.size→k≠g) (hB:Below B w1 W0) (hg:B≤g) :
 Hid (Bx ((W0.setCell ⟨g,0,none⟩ v0).setCell ⟨g,1,none⟩ v1) g T [v0,v1])∧Hid (Sl REnt All ((W0.setCell ⟨g,0,none⟩ v0).setCell ⟨g,1,none⟩ v1) a n c l)∧Hid (Below B w1 ((W0.setCell ⟨g,0,none⟩ v0).setCell ⟨g,1,none⟩ v1)) :=
 ⟨hJ ((hb.set 0 v0).set 1 v1),hJ ((hr.frame (fun k hk hlt=>(kAA (fun e=>hS k hk hlt e.symm)).trans (kAA (fun e=>hS k hk hlt e.symm)))).all),hJ ((hB.setCell hg _).setCell hg _)⟩
open Go.RowKit Go.ChangeShapes Go.WideShapes Go.Deep
section
variable {H:Type} {enc:TypeId × Value→H} {w:World} {base:Nat} {spare:Nat→Bool} {held:Bool}
theorem bulk_part {d:DataW H} {l:List (DataW H)} (h:d ∈ l):Rows.uptoBulk d≤Rows.uptoBulkAll l:=by
 induction l with
 | nil=>cases h
 | cons x r ih =>
   simp only [Rows.uptoBulkAll];cases List.mem_cons.1 h with
   | inl e=>subst e;omega
   | inr e=>have:=ih e;omega
theorem bulk_two:∀ (l:List (DataW H)),(∀ d ∈ l,2≤Rows.uptoBulk d)→l.length * 2≤Rows.uptoBulkAll l
 | [],_=>Nat.zero_le _
 | d :: l,h=>by
   have h1:=h d (List.mem_cons_self ..);have h2:=bulk_two l (fun x hx=>h x (List.mem_cons_of_mem _ hx));simp only [Rows.uptoBulkAll,List.length_cons];omega
theorem bulk_slice (elems spare:List (DataW H)):Rows.uptoBulkAll elems≤Rows.uptoBulk (.slice elems spare):=by simp only [Rows.uptoBulk];omega
theorem bulk_agg (parts:List (DataW H)):Rows.uptoBulkAll parts≤Rows.uptoBulk (.agg parts):=by simp only [Rows.uptoBulk];omega
theorem pickL {α :Type} [Inhabited α]:∀ (n:Nat) (P:Nat→ α →Prop),(∀ i,i<n→∃ y,P i y)→∃ l:List α,l.length=n∧∀ i y,l[i]? =some y→P i y
 | 0,P,_=>⟨[],rfl,fun i y h=>by simp at h⟩
 | n+1,P,h=>by
   obtain ⟨y0,h0⟩:=h 0 (by omega);obtain ⟨l,hl,hp⟩:=pickL n (fun i y=>P (i+1) y) (fun i hi=>h (i+1) (by omega));refine ⟨y0 :: l,by rw [List.length_cons,hl],fun i y hy=>?_⟩;cases i with
   | zero=>simp at hy;subst hy;exact h0
   | succ i=>exact hp i y (by simpa using hy)
theorem open_sl {α :Type} [Inhabited α] {R:Rep α} {Good: α →Prop} {t e:TypeId} {fuel:Nat} {cs:List Value} {x:DataW H × List MemPlace} {B:Nat} (ht:Tryz.prog.underlying t=some (.slice e)) (hC:Tryz.prog.cellsOf e=R.size)
 (step:∀ (n:Nat) (cs':List Value) (z:DataW H × List MemPlace),DataW.trod enc Tryz.prog w base spare held n e cs'=some z→Rows.uptoBulk z.1≤B→(∃ y,R.rd All w cs' y∧Good y)∧2≤Rows.uptoBulk z.1)
 (h:DataW.trod enc Tryz.prog w base spare held fuel t cs=some x) (hB:Rows.uptoBulk x.1≤B) :
 ∃ (a:Option Addr) (n c:Nat) (l:List α),cs=[.slice a n c]∧Sl R All w a n c l∧(∀ y ∈ l,Good y)∧l.length * 2≤B:=by
 rcases open_slice ht h with ⟨rfl,rfl⟩ | ⟨a,len,cap,m,n,D,Pl,rfl,hb,hl,hm,hmm,rfl,hi⟩
 · exact ⟨none,0,0,[],rfl,Sl.empty _ _ _,fun y hy=>absurd hy (List.not_mem_nil),Nat.zero_le _⟩
 · have hle:len≤m:=by rw [hmm];split <;> omega
   have hbk:=bulk_slice ((List.range len).map D) ((List.range (m - len)).map fun j=>D (len+j));have hD:∀ i,i<len→Rows.uptoBulk (D i)≤B:=fun i hi'=>Nat.le_trans (bulk_part (List.mem_map.2 ⟨i,List.mem_range.2 hi',rfl⟩)) (Nat.le_trans hbk hB)
   rw [hC] at hi
   have hstep:∀ i,i<len→(∃ y cs',R.rd All w cs' y∧Good y∧∀ j u,cs'[j]? =some u→w.cell? (a.add (i * R.size+j))=some u)∧2≤Rows.uptoBulk (D i):=fun i hi'=>by
    obtain ⟨cs',hcs,htr⟩:=hi i (by omega);obtain ⟨⟨y,hy,hg⟩,h2⟩:=step n cs' _ htr (hD i hi');obtain ⟨_,hlen,hat⟩:=World.cells?_some hcs;refine ⟨⟨y,cs',hy,hg,fun j u hu=>?_⟩,h2⟩
    have hj:j<R.size:=by
     rcases Nat.lt_or_ge j cs'.length with q | q
     · omega
     · rw [List.getElem?_eq_none q] at hu;cases hu
    rw [← Go.Deep.add_add,hat j hj,hu]
   obtain ⟨l,hll,hp⟩:=pickL len (fun i y=>∃ cs',R.rd All w cs' y∧Good y∧∀ j u,cs'[j]? =some u→w.cell? (a.add (i * R.size+j))=some u) (fun i hi'=>(hstep i hi').1);refine ⟨some a,len,cap,l,rfl,⟨hll,hl,hm,by intro h;(cases h),fun i y hy=>?_⟩,fun y hy=>?_,?_⟩
   · obtain ⟨cs',hr,hg,hc⟩:=hp i y hy
     have hlt:i<len:=by
      rcases Nat.lt_or_ge i l.length with q | q
      · omega
      · rw [List.getElem?_eq_none q] at hy;cases hy
     obtain ⟨y0,cs0,hr0,_,hc0⟩:=(hstep 0 (by omega)).1;have hl0:=R.len hr0;have hpos:=R.pos;have h00:=hc0 0 _ (List.getElem?_eq_getElem (show 0<cs0.length by omega));rw [Nat.zero_mul,Nat.zero_add] at h00;obtain ⟨b,off,sp⟩:=a
     have hsp:sp=none:=by
      cases sp with
      | none=>rfl
      | some k =>
        have:w.cell? (Addr.add ⟨b,off,some k⟩ 0)=none:=by
         show w.cell? ⟨b,off,some k⟩=none
         unfold World.cell?;cases w.heap[b]? with
         | none=>rfl
         | some o=>cases o <;> rfl
        rw [this] at h00;cases h00
     subst hsp;exact ⟨b,off,cs',rfl,trivial,hr,fun j u hu=>by have:=hc j u hu;rwa [add_mk] at this⟩
   · obtain ⟨i,hi',rfl⟩:=List.getElem_of_mem hy
     obtain ⟨_,_,hg,_⟩:=hp i _ (List.getElem?_eq_getElem hi');exact hg
   · have h2:=bulk_two ((List.range len).map D) (fun d hd=>by
      obtain ⟨i,hi',rfl⟩:=List.mem_map.1 hd;exact (hstep i (List.mem_range.1 hi')).2)
     rw [List.length_map,List.length_range] at h2;have h3:=Nat.le_trans hbk hB;omega
def gC (B:Nat) (y:Coef):Prop:=y.v.size≤B
def gL (B:Nat) (y:Lin):Prop:=∀ t ∈ y.terms,gC B t
def gT (B:Nat) (y:Typ):Prop:=y.elem.size≤B∧y.shape.row.size≤B∧∀ d ∈ y.shape.dims,gL B d
def gS (B:Nat) (y:Sch):Prop:=(∀ t ∈ y.params,gT B t)∧gT B y.result∧(∀ d ∈ y.wh,gL B d)∧y.params.length * 2≤B
theorem bulk_str {s:Str}:Rows.uptoBulk (DataW.lit (H:=H) (.string s.data.toList))=s.size+1:=by
 simp [Rows.uptoBulk]
theorem open_coef {B n:Nat} {cs:List Value} {z:DataW H × List MemPlace} (h:DataW.trod enc Tryz.prog w base spare held n 77 cs=some z) (hB:Rows.uptoBulk z.1≤B):(∃ y,kA2.rd All w cs y∧gC B y)∧2≤Rows.uptoBulk z.1:=by
 obtain ⟨xs,m,rfl,rfl,hl,hx,hf⟩:=DataW.trod_struct underlying77 h;have h0:=hf 0 _ rfl;have h1:=hf 1 _ rfl
 obtain ⟨x0,x1,rfl⟩:∃ x0 x1,xs=[x0,x1]:=by
  match xs,hx with
  | [x0,x1],_=>exact ⟨x0,x1,rfl⟩
 obtain ⟨c0,c1,rfl⟩:∃ c0 c1,cs=[c0,c1]:=by
  have hl:cs.length=2:=hl.trans (by kernel_rfl)
  match cs,hl with
  | [c0,c1],_=>exact ⟨c0,c1,rfl⟩
 obtain ⟨s,e0,rfl,hs⟩:=DataW.trod_string underlying9 (show DataW.trod enc Tryz.prog w base spare held m 9 [c0]=some x0 from h0);obtain ⟨k,e1,rfl,hk⟩:=DataW.trod_int underlying3 (show DataW.trod enc Tryz.prog w base spare held m 3 [c1]=some x1 from h1);cases e0;cases e1;have hb:=bulk_agg ([(DataW.lit (.string s.data.toList):DataW H),.lit (.int .i64 k)])
 have hq:Rows.uptoBulkAll ([(DataW.lit (.string s.data.toList):DataW H),.lit (.int .i64 k)])=s.size+1+(1+0):=by
  simp only [Rows.uptoBulkAll,bulk_str];rfl
 have hB:Rows.uptoBulk (DataW.agg [(DataW.lit (.string s.data.toList):DataW H),.lit (.int .i64 k)])≤B:=hB;refine ⟨⟨⟨s,k⟩,rfl,by show s.size≤B;omega⟩,?_⟩
 show 2≤Rows.uptoBulk (DataW.agg [(DataW.lit (.string s.data.toList):DataW H),.lit (.int .i64 k)])
 omega
theorem bulk_pos (d:DataW H):1≤Rows.uptoBulk d:=by
 cases d with
 | lit l=>cases l <;> simp [Rows.uptoBulk]
 | nil=>simp [Rows.uptoBulk]
 | ptr d=>simp [Rows.uptoBulk]
 | slice elems spare=>simp [Rows.uptoBulk]
 | agg parts=>simp [Rows.uptoBulk]
 | iface t d=>simp [Rows.uptoBulk]
 | map entries=>simp [Rows.uptoBulk]
 | held h=>simp [Rows.uptoBulk]
theorem agg_two (d:DataW H) (l:List (DataW H)):2≤Rows.uptoBulk (.agg (d :: l)):=by
 have h:=bulk_pos d;simp only [Rows.uptoBulk,Rows.uptoBulkAll];omega
theorem kCR {d:DataW H} {l:List (DataW H)} {B:Nat} (h:Rows.uptoBulk (.agg l)≤B) (hd:d ∈ l):Rows.uptoBulk d≤B:=Nat.le_trans (bulk_part hd) (Nat.le_trans (bulk_agg l) h)
theorem open_str {B m:Nat} {c:Value} {x:DataW H × List MemPlace} (h:DataW.trod enc Tryz.prog w base spare held m 9 [c]=some x) (hB:Rows.uptoBulk x.1≤B):∃ s:Str,c= .string s∧s.size≤B:=by
 obtain ⟨s,e0,rfl,hs⟩:=DataW.trod_string underlying9 h;cases e0;have hB:Rows.uptoBulk (DataW.lit (H:=H) (.string s.data.toList))≤B:=hB;rw [bulk_str] at hB;exact ⟨s,rfl,by omega⟩
theorem two_of {α :Type} {l:List α} (h:l.length=2):∃ a b,l=[a,b]:=by
 match l,h with
 | [a,b],_=>exact ⟨a,b,rfl⟩
theorem three_of {α :Type} {l:List α} (h:l.length=3):∃ a b c,l=[a,b,c]:=by
 match l,h with
 | [a,b,c],_=>exact ⟨a,b,c,rfl⟩
theorem five_of {α :Type} {l:List α} (h:l.length=5):∃ a b c d e,l=[a,b,c,d,e]:=by
 match l,h with
 | [a,b,c,d,e],_=>exact ⟨a,b,c,d,e,rfl⟩
theorem open_lin {B n:Nat} {cs:List Value} {z:DataW H × List MemPlace} (h:DataW.trod enc Tryz.prog w base spare held n 45 cs=some z) (hB:Rows.uptoBulk z.1≤B):(∃ y,RLin.rd All w cs y∧gL B y)∧2≤Rows.uptoBulk z.1:=by
 obtain ⟨xs,m,rfl,rfl,hl,hx,hf⟩:=DataW.trod_struct underlying45 h;obtain ⟨x0,x1,rfl⟩:=two_of hx;obtain ⟨c0,c1,rfl⟩:=two_of (hl.trans (by kernel_rfl));have hB:Rows.uptoBulk (.agg [x0.1,x1.1])≤B:=hB;obtain ⟨k,e0,_,_⟩:=DataW.trod_int underlying3 (show DataW.trod enc Tryz.prog w base spare held m 3 [c0]=some x0 from hf 0 _ rfl);cases e0;obtain ⟨a,n,c,l,e1,hs,hg,_⟩:=open_sl (R:=kA2) (Good:=gC B) underlying43 (by kernel_rfl) (fun n cs' z h hb=>open_coef h hb) (show DataW.trod enc Tryz.prog w base spare held m 43 [c1]=some x1 from hf 1 _ rfl) (kCR hB (by simp));cases e1;obtain rfl:=hs.len;exact ⟨⟨⟨k,l⟩,⟨_,rfl,a,c,rfl,hs⟩,hg⟩,agg_two _ _⟩
theorem open_shp {B n:Nat} {cs:List Value} {z:DataW H × List MemPlace} (h:DataW.trod enc Tryz.prog w base spare held n 24 cs=some z) (hB:Rows.uptoBulk z.1≤B):∃ y:Shp,RShp.rd All w cs y∧y.row.size≤B∧∀ d ∈ y.dims,gL B d:=by
 obtain ⟨xs,m,rfl,rfl,hl,hx,hf⟩:=DataW.trod_struct underlying24 h;obtain ⟨x0,x1,rfl⟩:=two_of hx;obtain ⟨c0,c1,rfl⟩:=two_of (hl.trans (by kernel_rfl));have hB:Rows.uptoBulk (.agg [x0.1,x1.1])≤B:=hB;obtain ⟨s,rfl,hs0⟩:=open_str (show DataW.trod enc Tryz.prog w base spare held m 9 [c0]=some x0 from hf 0 _ rfl) (kCR hB (by simp));obtain ⟨a,n,c,l,e1,hs,hg,_⟩:=open_sl (R:=RLin) (Good:=gL B) underlying22 (by kernel_rfl) (fun n cs' z h hb=>open_lin h hb) (show DataW.trod enc Tryz.prog w base spare held m 22 [c1]=some x1 from hf 1 _ rfl) (kCR hB (by simp));cases e1;obtain rfl:=hs.len;exact ⟨⟨s,l⟩,⟨_,rfl,a,c,rfl,hs⟩,hs0,hg⟩
theorem open_typ {B n:Nat} {cs:List Value} {z:DataW H × List MemPlace} (h:DataW.trod enc Tryz.prog w base spare held n 26 cs=some z) (hB:Rows.uptoBulk z.1≤B):(∃ y,RTyp.rd All w cs y∧gT B y)∧2≤Rows.uptoBulk z.1:=by
 obtain ⟨xs,m,rfl,rfl,hl,hx,hf⟩:=DataW.trod_struct underlying26 h;obtain ⟨x0,x1,rfl⟩:=two_of hx;obtain ⟨c0,c1,c2,rfl⟩:=three_of (hl.trans (by kernel_rfl));have hB:Rows.uptoBulk (.agg [x0.1,x1.1])≤B:=hB;obtain ⟨s,rfl,hs0⟩:=open_str (show DataW.trod enc Tryz.prog w base spare held m 9 [c0]=some x0 from hf 0 _ rfl) (kCR hB (by simp));have h1:=hf 1 _ rfl;obtain ⟨y,⟨t,e,ht⟩,hy1,hy2⟩:=open_shp (show DataW.trod enc Tryz.prog w base spare held m 24 [c1,c2]=some x1 from h1) (kCR hB (by simp));cases e;exact ⟨⟨⟨s,y⟩,⟨_,rfl,ht⟩,hs0,hy1,hy2⟩,agg_two _ _⟩
theorem open_sch {B n:Nat} {cs:List Value} {z:DataW H × List MemPlace} (h:DataW.trod enc Tryz.prog w base spare held n 29 cs=some z) (hB:Rows.uptoBulk z.1≤B):∃ y,RSch.rd All w cs y∧gS B y:=by
 obtain ⟨xs,m,rfl,rfl,hl,hx,hf⟩:=DataW.trod_struct underlying29 h;obtain ⟨x0,x1,x2,rfl⟩:=three_of hx;obtain ⟨c0,c1,c2,c3,c4,rfl⟩:=five_of (hl.trans (by kernel_rfl));have hB:Rows.uptoBulk (.agg [x0.1,x1.1,x2.1])≤B:=hB;obtain ⟨a,n,c,l,e1,hs,hg,hln⟩:=open_sl (R:=RTyp) (Good:=gT B) underlying27 (by kernel_rfl) (fun n cs' z h hb=>open_typ h hb) (show DataW.trod enc Tryz.prog w base spare held m 27 [c0]=some x0 from hf 0 _ rfl) (kCR hB (by simp));cases e1;obtain rfl:=hs.len;have h1:=hf 1 _ rfl;obtain ⟨⟨y,⟨t,e,ht⟩,hy⟩,_⟩:=open_typ (show DataW.trod enc Tryz.prog w base spare held m 26 [c1,c2,c3]=some x1 from h1) (kCR hB (by simp));cases e;obtain ⟨a2,n2,c5,l2,e2,hs2,hg2,_⟩:=open_sl (R:=RLin) (Good:=gL B) underlying22 (by kernel_rfl) (fun n cs' z h hb=>open_lin h hb) (show DataW.trod enc Tryz.prog w base spare held m 22 [c4]=some x2 from hf 2 _ rfl) (kCR hB (by simp));cases e2;obtain rfl:=hs2.len;exact ⟨⟨l,y,l2⟩,⟨_,_,_,rfl,⟨a,c,rfl,hs⟩,ht,⟨a2,c5,rfl,hs2⟩⟩,hg,hy,hg2,hln⟩
theorem gL_big {B:Nat} (hB:B≤2000000) {y:Lin} (h:gL B y):bigL y∧szL y:=⟨fun t ht=>Nat.le_trans (h t ht) (by omega),fun t ht=>Nat.le_trans (h t ht) hB⟩
end
open Go.RowKit Go.ChangeShapes Go.WideShapes Go.Deep
section
variable {H:Type} {enc:TypeId × Value→H} {w:World} {base:Nat} {spare:Nat→Bool} {held:Bool}
theorem seven_of {α :Type} {l:List α} (h:l.length=7):∃ a b c d e f g,l=[a,b,c,d,e,f,g]:=by
 match l,h with
 | [a,b,c,d,e,f,g],_=>exact ⟨a,b,c,d,e,f,g,rfl⟩
def gB (B:Nat) (y:Bnd):Prop:=y.v.size≤B∧y.elem.size≤B∧gL B y.dim∧(∀ d ∈ y.row.dims,gL B d)∧y.row.row.size≤B
theorem open_bnd {B n:Nat} {cs:List Value} {z:DataW H × List MemPlace} (h:DataW.trod enc Tryz.prog w base spare held n 47 cs=some z) (hB:Rows.uptoBulk z.1≤B):(∃ y,RBnd.rd All w cs y∧gB B y)∧2≤Rows.uptoBulk z.1:=by
 obtain ⟨xs,m,rfl,rfl,hl,hx,hf⟩:=DataW.trod_struct underlying47 h;obtain ⟨x0,x1,x2,x3,x4,rfl⟩:=five_of hx;obtain ⟨c0,c1,c2,c3,c4,c5,c6,rfl⟩:=seven_of (hl.trans (by kernel_rfl));have hB:Rows.uptoBulk (.agg [x0.1,x1.1,x2.1,x3.1,x4.1])≤B:=hB;obtain ⟨k,e0,_,_⟩:=DataW.trod_int underlying3 (show DataW.trod enc Tryz.prog w base spare held m 3 [c0]=some x0 from hf 0 _ rfl);cases e0;obtain ⟨s,rfl,hs0⟩:=open_str (show DataW.trod enc Tryz.prog w base spare held m 9 [c1]=some x1 from hf 1 _ rfl) (kCR hB (by simp));have h2:=hf 2 _ rfl;obtain ⟨⟨d,⟨td,ed,hd⟩,hgd⟩,_⟩:=open_lin (show DataW.trod enc Tryz.prog w base spare held m 45 [c2,c3]=some x2 from h2) (kCR hB (by simp));cases ed;have h3:=hf 3 _ rfl;obtain ⟨r,⟨tr,er,hr⟩,hgr,hgrd⟩:=open_shp (show DataW.trod enc Tryz.prog w base spare held m 24 [c4,c5]=some x3 from h3) (kCR hB (by simp));cases er;obtain ⟨q,rfl,hq0⟩:=open_str (show DataW.trod enc Tryz.prog w base spare held m 9 [c6]=some x4 from hf 4 _ rfl) (kCR hB (by simp));exact ⟨⟨⟨k,s,d,r,q⟩,⟨_,_,rfl,hd,hr⟩,hs0,hq0,hgd,hgrd,hgr⟩,agg_two _ _⟩
theorem gB_big {B:Nat} (hB:B≤2000000) {y:Bnd} (h:gB B y):bigB y :=
 ⟨Nat.le_trans h.1 (by omega),Nat.le_trans h.2.1 (by omega),(gL_big hB h.2.2.1).1,fun d hd=>(gL_big hB (h.2.2.2.1 d hd)).1,Nat.le_trans h.2.2.2.2 (by omega)⟩
theorem open_bnds {n:Nat} {cs:List Value} {z:DataW H × List MemPlace} (h:DataW.trod enc Tryz.prog w base spare held n 30 cs=some z) (hB:Rows.uptoBulk z.1≤1048576):∃ (a:Option Addr) (k c:Nat) (l:List Bnd),cs=[.slice a k c]∧Sl RBnd All w a k c l∧∀ y ∈ l,bigB y:=by
 obtain ⟨a,k,c,l,e,hs,hg,_⟩:=open_sl (R:=RBnd) (Good:=gB 1048576) underlying30 (by kernel_rfl) (fun n cs' z h hb=>open_bnd h hb) h hB;exact ⟨a,k,c,l,e,hs,fun y hy=>gB_big (by decide) (hg y hy)⟩
theorem gS_big {B:Nat} (hB:B≤2000000) {s:Sch} (h:gS B s):bigS s∧∀ y ∈ s.wh,szL y:=by
 obtain ⟨h2,h3,h4,h5⟩:=h;have hT:∀ t,gT B t→bigT t:=fun t q=>⟨fun d hd=>(gL_big hB (q.2.2 d hd)).1,Nat.le_trans q.2.1 (by omega),Nat.le_trans q.1 (by omega)⟩
 refine ⟨⟨fun t ht=>?_,fun y hy=>(gL_big hB (h4 y hy)).1,by omega⟩,fun y hy=>(gL_big hB (h4 y hy)).2⟩;unfold allT at ht;rcases List.mem_append.1 ht with q | q
 · exact hT t (h2 t q)
 · rw [List.mem_singleton] at q;subst q;exact hT _ h3
end
end Go.Proofs.YtkndimjghfomcaaGreatDoor
namespace Go.Proofs.YtkndimjghfomcaaGreatDoor.typesSubst
open Go.Proofs.Tryz
open Go.ChangeShapes Go.WideShapes Go.ChangeAt Go.RowKit
theorem own:ownKnob Tryz.prog.godebug=none:=by kernel_rfl
theorem laidOut:laidOutB Tryz.prog=true:=by kernel_rfl
theorem laid_one {W:World} {l:List (String × DataW Unit)} (name:String) {x:String × DataW Unit} (h:laidMetH Tryz.prog l W) (hf:l.filter (fun y=>y.1==name)=[x]) (hx:[x].filter (fun y=>y.2.handleName?.isNone)=[x]):laidMet Tryz.prog [x] W:=by
 have h1:=h.filter (fun y=>y.1==name);rw [hf] at h1;have h2:=(laidMetH_iff.1 h1).1
 rwa [hx] at h2
theorem var_iface {W:World} {name tn:String} {d:DataW Unit} {g:Nat} {t:TypeId} {ms:Array (String × TypeId)} (hg:Tryz.prog.globalNamed name=some g) (hty:(Tryz.prog.globals[g]?).map (·.type)=some t) (ht:Tryz.prog.underlying t=some (.interface ms)) (h:laidMet Tryz.prog [(name,.iface tn d)] W):∃ tp p,World.var? Tryz.prog W name=some #[.iface tp p]:=by
 obtain ⟨ps,⟨g',t',cs,fuel,p,q,hg',ht',hvar,hd,_,_⟩,_⟩:=h;obtain rfl:=Option.some.inj (hg.symm.trans hg');obtain rfl:=Option.some.inj (hty.symm.trans ht')
 have key:∃ u v,cs.toList=[.iface u v]:=by
  cases fuel with
  | zero=>simp [DataW.trod] at hd
  | succ n =>
    unfold DataW.trod at hd;rw [ht] at hd
    split at hd <;> simp_all
 obtain ⟨u,v,hc⟩:=key;exact ⟨u,v,by rw [hvar,Array.eq_one_of_toList hc]⟩
theorem gTab:Tryz.prog.globalNamed "internal/strconv.uint64pow10" =some 1:=by kernel_rfl
theorem gTabType:(Tryz.prog.globals[1]?).map (·.type)=some 351:=by kernel_rfl
theorem cellsTab:Tryz.prog.cellsOf 351=20:=by kernel_rfl
theorem cellsU64:Tryz.prog.cellsOf 212=1:=by kernel_rfl
theorem env_of {W:World} (hL:laidMetH Tryz.prog Rows.typesSubstUptoRow.laid W) (hsh:W.ShapedOpen Tryz.prog):Env W where
 sx:=var_iface (g:=4) (tn:= "*errors.errorString") (by kernel_rfl) (by kernel_rfl) underlying192 (laid_one "strconv.ErrSyntax" hL (x:=("strconv.ErrSyntax",Rows.laid_strconv_ErrSyntax)) (by kernel_rfl) (by kernel_rfl))
 rg:=var_iface (g:=5) (tn:= "*errors.errorString") (by kernel_rfl) (by kernel_rfl) underlying192 (laid_one "strconv.ErrRange" hL (x:=("strconv.ErrRange",Rows.laid_strconv_ErrRange)) (by kernel_rfl) (by kernel_rfl))
 ten:=Lib.tabIs_of_head (rest:=[]) gTab gTabType underlying351 underlying212 cellsU64 cellsTab (laid_one "internal/strconv.uint64pow10" hL (x:=("internal/strconv.uint64pow10",Lib.tabData .u64 Lib.pow10Tab)) (by kernel_rfl) (by kernel_rfl))
 big:=by
  have h7:(((begin Tryz.prog (fun _ _=>0) default).world.heap[7]?).bind Obj.row?).isSome=true:=by kernel_rfl
  obtain ⟨⟨z,t⟩,e⟩:=Option.isSome_iff_exists.1 h7;obtain ⟨cs,hc,_⟩:=hsh.1 7 z t (of_decide_eq_true (by kernel_rfl)) e;rcases Nat.lt_or_ge 7 W.heap.size with q | q
  · omega
  · rw [Array.getElem?_eq_none q] at hc;cases hc
theorem envM_of {W:World} (hL:laidMetH Tryz.prog Rows.typesSubstUptoRow.laid W) (hsh:W.ShapedOpen Tryz.prog):EnvM W:=⟨env_of hL hsh,Tryz.laysM146.s1_3 W hsh⟩
theorem contract (H:Type) (enc:TypeId × Value→H) (W:World) (base:Nat) (args:Array Value) (ds gs:List (DataW H)) (before:List MemPlace)
 (hval0:∀ (j:Nat) t v,Tryz.f3.params[j]? =some t→args[j]? =some v→Value.okWide Tryz.prog W .any base t v)
 (hW:DataW.Whole enc Tryz.prog Tryz.f3.params.toList Rows.typesSubstSpec.vars false W args.toList ds gs before) (hk:Rows.uptoSmall H (ds++gs)=true) (hL:laidMetH Tryz.prog Rows.typesSubstUptoRow.laid W) (hsh:W.ShapedOpen Tryz.prog) :
 Calls Tryz.prog 3 args W fun e W'=>∃ v,e= .returned v∧Rows.typesSubstSpec.post enc Tryz.prog Tryz.f3 false true false false W args v W':=by
 have hval:∀ (j:Nat) t v,Tryz.f3.params[j]? =some t→args[j]? =some v→Value.okWide Tryz.prog W .any base t v:=hval0;have hW':=hW;obtain ⟨p,q,hA0,hV,rfl,hfz,hnd⟩:=hW;have hA:DataW.TrodAll enc Tryz.prog W 0 (fun _=>true) true Tryz.f3.params.toList args.toList ds p:=hA0;rw [Tryz.params3] at hA hval;obtain ⟨v0,vs0,d0,ds0,p0,q0,hargs0,rfl,rfl,h0,r0⟩:=trodAll_cons hA;obtain ⟨v1,vs1,d1,ds1,p1,q1,hargs1,rfl,rfl,h1,r1⟩:=trodAll_cons r0;obtain ⟨v2,vs2,d2,ds2,p2,q2,hargs2,rfl,rfl,h2,r2⟩:=trodAll_cons r1;obtain ⟨rfl,rfl,rfl⟩:=trodAll_nil r2;subst hargs2;subst hargs1;obtain rfl:args= #[v0,v1,v2]:=by cases args;simp_all
 obtain ⟨rfl,rfl⟩:=trodVars_none hV;obtain ⟨cs0,rfl,hcs0⟩:=okWide_struct underlying26 (hval 0 _ v0 rfl rfl);obtain ⟨cs1,rfl,hcs1⟩:=okWide_struct underlying29 (hval 1 _ v1 rfl rfl);obtain ⟨a2,n2,c2,rfl⟩:=okWide_slice underlying30 (hval 2 _ v2 rfl rfl);have k0:=h0;have lt0:∀ x ∈ p0,x.block<W.heap.size:=by obtain ⟨m,hm⟩:=k0;exact DataW.trod_lt m _ _ _ hm
 have k1:=h1;have lt1:∀ x ∈ p1,x.block<W.heap.size:=by obtain ⟨m,hm⟩:=k1;exact DataW.trod_lt m _ _ _ hm
 have k2:=h2;have lt2:∀ x ∈ p2,x.block<W.heap.size:=by obtain ⟨m,hm⟩:=k2;exact DataW.trod_lt m _ _ _ hm
 have hb2:Rows.uptoBulk d0≤1048576∧Rows.uptoBulk d1≤1048576∧Rows.uptoBulk d2≤1048576:=by
  have h:=of_decide_eq_true hk;simp only [List.append_nil,Rows.uptoBulkAll] at h;omega
 have hb09:=hb2.1;obtain ⟨fuel0,hf0⟩:=h0;obtain ⟨⟨y0,hrd0,hg0⟩,_⟩:=open_typ hf0 hb09;have hcs09:cs0=cs0.toList.toArray:=by simp
 have hb19:=hb2.2.1;obtain ⟨fuel1,hf1⟩:=h1;obtain ⟨y1,hrd1,hg1⟩:=open_sch hf1 hb19;have hcs19:cs1=cs1.toList.toArray:=by simp
 have hG1:=gS_big (by decide) hg1;have hb29:=hb2.2.2;obtain ⟨fuel2,hf2⟩:=h2;obtain ⟨ad2,n92,c92,l2,e2,hrd2,hg2⟩:=open_bnds hf2 hb29;cases e2;clear hA0 hval0;rw [hcs09];rw [hcs19];have HL:=law12_Subst hrd0 hrd1 hrd2 (fun d hd t ht=>Nat.le_trans (hg0.2.2 d hd t ht) (by decide)) (Nat.le_trans hg0.2.1 (by decide)) (Nat.le_trans hg0.1 (by decide)) hG1.1 hG1.2 hg2 (envM_of hL hsh);refine HL.mono fun e W' ⟨he,bel⟩=>?_
 subst he;exact ⟨_,rfl,_,_,_,[],_,[],hW',trodAll_mk1 (shut_bool underlying4 _),(trodAll_cons_mk (Below.trod laidOut (by kernel_rfl) (of_decide_eq_true (by kernel_rfl)) k0 bel lt0) (trodAll_cons_mk (Below.trod laidOut (by kernel_rfl) (of_decide_eq_true (by kernel_rfl)) k1 bel lt1) (trodAll_cons_mk (Below.trod laidOut (by kernel_rfl) (of_decide_eq_true (by kernel_rfl)) k2 bel lt2) trodAll_mk0))),rfl,bel.frame _,fun h=>by cases h⟩
abbrev textR:ByteArray:= { data:=#[118,97,108,117,101,32,111,117,116,32,111,102,32,114,97,110,103,101] }
abbrev kCX:ByteArray:= { data:=#[105,110,118,97,108,105,100,32,115,121,110,116,97,120] }
def leaf:DataW Unit→Value
 | .lit (.int k n)=>.int k n
 | _=>.nilIface
def flat1:DataW Unit→List Value
 | .agg ds=>ds.map leaf
 | d=>[leaf d]
def flat2:DataW Unit→List Value
 | .agg ds=>ds.flatMap flat1
 | d=>[leaf d]
def layAt (g:Nat) (row:List Value) (h:Array Obj):Array Obj:=h.modify g fun
 | .cells _ t frozen=>.cells row.toArray t frozen
 | o=>o
noncomputable def low:Nat:=(World.holding Tryz.prog default ⟨#[],#[],[]⟩).heap.size
noncomputable def kIJ (os:Os):World :=
 let w0:=World.holding Tryz.prog os ⟨#[.cells #[.string textR] 422,.cells #[.string kCX] 422],#[],[]⟩
 { w0 with heap:=layAt 6 (flat2 Rows.laid_math_bits_deBruijn32tab) (layAt 7 (flat2 Rows.laid_math_bits_deBruijn64tab) (layAt 1 (flat2 Rows.laid_internal_strconv_uint64pow10) (layAt 3 (flat2 Rows.laid_unicode_utf8_acceptRanges) (layAt 2 (flat2 Rows.laid_unicode_utf8_first)
   (layAt 5 [.iface 420 (.pointer (some ⟨low,0,none⟩))] (layAt 4 [.iface 420 (.pointer (some ⟨low+1,0,none⟩))] w0.heap)))))) }
abbrev arg0:Value:=.agg #[.string ⟨#[]⟩,.string ⟨#[]⟩,.slice none 0 0]
abbrev arg1:Value:=.agg #[.slice none 0 0,.string ⟨#[]⟩,.string ⟨#[]⟩,.slice none 0 0,.slice none 0 0]
abbrev arg2:Value:=.slice none 0 0
theorem laid_met (os:Os):laidMet Tryz.prog Rows.typesSubstUptoRow.laid ((kIJ os).forCall (fun _ _=>0) ⟨#[],#[arg0,arg1,arg2],[]⟩).memory :=
 laidMet_of_run' 8 (by kernel_rfl) (by kernel_rfl)
theorem reads (os:Os) {H:Type} (enc:TypeId × Value→H):∃ places,DataW.whole enc Tryz.prog ((kIJ os).forCall (fun _ _=>0) ⟨#[],#[arg0,arg1,arg2],[]⟩).memory Tryz.f3.params.toList Rows.typesSubstSpec.vars false #[arg0,arg1,arg2].toList 8=some ([.agg [.lit (.string []),.agg [.lit (.string []),.nil]],.agg [.nil,.agg [.lit (.string []),.agg [.lit (.string []),.nil]],.nil],.nil],[],places) :=
 ⟨[],by kernel_rfl⟩
end Go.Proofs.YtkndimjghfomcaaGreatDoor.typesSubst
namespace Go.Proofs.YtkndimjghfomcaaGreatDoor
open Go.Proofs.Tryz
open Go.ChangeShapes Go.WideShapes Go.ChangeAt
theorem joined_parts (P:Program) (f:FuncId) (fn:Func) (s:ChangeSpec) (c:OpenClaim) (h0:((c.inPlace==P.inPlace f))=true) (h1:((c.unfollowed==P.unfollowed f))=true) (h2:((c.recurses==P.recurses f))=true) (h3:((c.named==P.varsNamed f))=true) (h4:(laidOutB P)=true) (h5:((c.lifted==P.liftsFinal))=true) (h6:(mapsRowed P)=true)
 (hr:(c.wf (OpenSpec.ofChange s) && fn.params.all (P.readableRec ·) && namedTie P c.named s.vars && (c.stops==[]) && (P.stops==[]) && (c.knobs==[]) && (P.stopKnobs==[]) && (c.maps==(fn.params.toList++s.plain.varTypes P).any (P.mapsRec ·)) && (c.ifaces==(fn.params.toList++s.plain.varTypes P).any (P.ifacesRec ·)) && (c.mapsOut==P.mapsAmong fn.resultTypes.toList) && (c.loops==(fn.params.toList++s.plain.varTypes P).any (P.loopsFrom ·)) && (c.wideKeys==(fn.params.toList++s.plain.varTypes P++fn.resultTypes.toList).any (P.wideKeysFrom ·)) && s.vars.all (P.varReadable ·) && fn.resultTypes.all (fun t=>P.readableRec t && decide (t<P.types.size)) && (c.ifacesOut==fn.resultTypes.toList.any (P.ifacesRec ·)) && (c.loopsOut==fn.resultTypes.toList.any (P.loopsFrom ·)) && (c.plainKeys==P.plainKeys) && c.shortTexts.isNone && P.stopsHeard && P.mayEnter && (P.make==some c.make) && (c.kinds==(if c.domain.isEmpty then [] else fn.params.toList.map fun t=>match P.underlying t with | some (.int k)=>some k | _=>none)) && (c.pinned==c.pinnedBy) && (c.veiled==(fn.params.toList++s.plain.varTypes P++fn.resultTypes.toList).any (P.veiledRec ·)) && c.veiledFits P fn.params.toList (fn.params.toList++s.plain.varTypes P++fn.resultTypes.toList))=true):joinedFacts P f fn s c=true:=by
 simp only [Bool.and_eq_true] at hr;unfold joinedFacts;simp only [Bool.and_eq_true];simp only [hr,h0,h1,h2,h3,h4,h5,h6,and_self];exact ⟨⟨⟨⟨trivial,hr.1.1.1.2⟩,trivial⟩,trivial⟩,trivial⟩
theorem goes_none {P:Program} (h:P.funcs.any Func.goes=false) (f:FuncId):P.goes f=false:=by
 have one:∀ g:FuncId,(P.funcs[g]?).any Func.goes=false:=fun g=>by
  cases e:P.funcs[g]? with
  | none=>rfl
  | some fn =>
    obtain ⟨hg,e2⟩:=Array.getElem?_eq_some_iff.1 e
    show Func.goes fn=false
    rw [Bool.eq_false_iff];intro q;have:=Array.any_eq_false.1 h g hg;rw [e2] at this;exact this q
 unfold Program.goes;rw [h,Bool.and_false,Bool.or_false];rw [Bool.eq_false_iff];intro q;obtain ⟨g,_,hg⟩:=List.any_eq_true.1 q;rw [one g] at hg;cases hg
theorem goesBy_none {c:OpenClaim} {P:Program} (hs:c.start= .entering) (h:P.funcs.any Func.goes=false):false=c.goesBy P:=by
 unfold OpenClaim.goesBy Program.goesAt Program.goesFrom;rw [hs,Bool.or_false];cases P.funcNamed c.func with
 | none=>rfl
 | some f=>exact (goes_none h f).symm
end Go.Proofs.YtkndimjghfomcaaGreatDoor
namespace Go.Proofs.YtkndimjghfomcaaGreatDoor.typesSubst
open Go.Proofs.Tryz
open Go.ChangeShapes Go.WideShapes Go.ChangeAt Go.RowKit
theorem k0:(Rows.typesSubstUptoRow.inPlace==Tryz.pinned.checked.prog.inPlace 3)=true:=by kernel_rfl
theorem k1:(Rows.typesSubstUptoRow.unfollowed==Tryz.pinned.checked.prog.unfollowed 3)=true:=by kernel_rfl
end Go.Proofs.YtkndimjghfomcaaGreatDoor.typesSubst
namespace Go.Proofs.YtkndimjghfomcaaGreatDoor.typesSubst
open Go.Proofs.Tryz
open Go.ChangeShapes Go.WideShapes Go.ChangeAt Go.RowKit
theorem k2:(Rows.typesSubstUptoRow.recurses==Tryz.pinned.checked.prog.recurses 3)=true:=by kernel_rfl
theorem k3:(Rows.typesSubstUptoRow.named==Tryz.pinned.checked.prog.varsNamed 3)=true:=by kernel_rfl
end Go.Proofs.YtkndimjghfomcaaGreatDoor.typesSubst
namespace Go.Proofs.YtkndimjghfomcaaGreatDoor.typesSubst
open Go.Proofs.Tryz
open Go.ChangeShapes Go.WideShapes Go.ChangeAt Go.RowKit
theorem closed:joinedFacts Tryz.pinned.checked.prog 3 Tryz.f3 (Rows.OpenSpec.upto Rows.typesSubstSpec).bare Rows.typesSubstUptoRow=true:=joined_parts _ _ _ _ _ k0 k1 k2 k3 laidOut (by kernel_rfl) (by kernel_rfl) (by kernel_rfl)
end Go.Proofs.YtkndimjghfomcaaGreatDoor.typesSubst
namespace Go.Proofs.YtkndimjghfomcaaGreatDoor.typesSubst
open Go.Proofs.Tryz
open Go.ChangeShapes Go.WideShapes Go.ChangeAt Go.RowKit
theorem laid_metH (os:Os):laidMetH Tryz.prog Rows.typesSubstUptoRow.laid ((kIJ os).forCall (fun _ _=>0) ⟨#[],#[arg0,arg1,arg2],[]⟩).memory :=
 laidMetH_iff.2 ⟨by
  rw [show (Rows.typesSubstUptoRow.laid.filter fun x=>x.2.handleName?.isNone)=Rows.typesSubstUptoRow.laid from by kernel_rfl]
  exact laid_met os,by
  rw [show (Rows.typesSubstUptoRow.laid.filter fun x=>x.2.handleName?.isSome)=[] from by kernel_rfl];exact fun x hx=>absurd hx (List.not_mem_nil)⟩
theorem liftedUpto (os:Os) (started:os.Started) (H:Type) (enc:TypeId × Value→H) (F:Stop.Interp) :
 ReturnsInHanded {} Tryz.checked os 3 .any ((Rows.OpenSpec.upto Rows.typesSubstSpec).preRow enc Tryz.prog Tryz.f3 Rows.typesSubstUptoRow.domain false Rows.typesSubstUptoRow.laid) (((Rows.OpenSpec.upto Rows.typesSubstSpec).at F).post enc Tryz.prog Tryz.f3 false true false false):=by
 obtain ⟨places,hx⟩:=reads os enc
 refine returnsInHanded_of_row (C:=Tryz.checked) (s:=Rows.OpenSpec.upto Rows.typesSubstSpec) own started (by kernel_rfl) func3
  (witness_row_at (enc:=enc) (C:=Tryz.checked) false (kIJ os) #[arg0,arg1,arg2] rfl (by kernel_rfl) (by kernel_rfl) (by kernel_rfl)
    (OpenSpec.preRow_of_cond 8 hx (by kernel_rfl) (fun k hk=>by cases hk;kernel_rfl) (by kernel_rfl) (laid_metH os))) ?_
 intro W base args ds gs before hval hW _ hcond _ hL hsh _;exact contract H enc W base args ds gs before hval hW (hcond _ rfl) hL hsh
theorem saidUpto:Rows.TypesSubstUptoSaid :=
 OpenClaim.holds_of_cond 3 Tryz.f3 rfl rfl rfl rfl rfl rfl rfl ⟨rfl,rfl,rfl,rfl,rfl⟩ rfl rfl rfl rfl rfl (by kernel_rfl) func3 closed
  (of_decide_eq_true (by kernel_rfl)) (by unfold Func.isWrapper;first | (rw [if_pos (by decide +kernel)];kernel_rfl) | (rw [if_neg (by decide +kernel)];exact ⟨rfl,rfl⟩))
  (fun os started H enc _ F=>by rw [OpenClaim.pre_eq_preRow];exact liftedUpto os started H enc F)
theorem plain (f:FuncId) (fn:Func) (hf:Tryz.pinned.checked.prog.funcNamed "framewise/framewiselaw12.TypesSubst" =some f) (hfn:Tryz.pinned.checked.prog.funcs[f]? =some fn) :
 true=Tryz.pinned.checked.prog.looks []∧∀ (j:Nat) t,fn.params[j]? =some t→Tryz.pinned.checked.prog.wantsStandIn t=false:=by
 obtain rfl:f=3:=Option.some.inj ((show Tryz.prog.funcNamed "framewise/framewiselaw12.TypesSubst" =some 3 by kernel_rfl).symm.trans hf) |>.symm
 obtain rfl:fn=Tryz.f3:=(Option.some.inj (func3.symm.trans hfn)).symm;refine ⟨by kernel_rfl,fun j t ht=>?_⟩;rw [Tryz.params3] at ht
 have hm:t=26∨t=29∨t=30:=by
  have:=Array.mem_of_getElem? ht;simp at this;omega
 rcases hm with rfl | rfl | rfl
 · exact (show Tryz.prog.wantsStandIn 26=false by kernel_rfl)
 · exact (show Tryz.prog.wantsStandIn 29=false by kernel_rfl)
 · exact (show Tryz.prog.wantsStandIn 30=false by kernel_rfl)
theorem byText:Rows.typesSubstUptoRow.wfByText (Rows.OpenSpec.upto Rows.typesSubstSpec)=true:=by kernel_rfl
theorem goesNot:false=Rows.typesSubstUptoRow.goesBy Tryz.pinned.checked.prog:=goesBy_none rfl (by kernel_rfl)
theorem cardUpto:Rows.TypesSubstUptoCardSaid :=
 Claim7.holds_tied_plain_at .later [] _ _ _ _ saidUpto (fun _ h=>by cases h) byText (fun _ h=>by cases h) typesSubstUpto_row_tie rfl ⟨rfl,rfl⟩ (by kernel_rfl) rfl plain goesNot
end Go.Proofs.YtkndimjghfomcaaGreatDoor.typesSubst
