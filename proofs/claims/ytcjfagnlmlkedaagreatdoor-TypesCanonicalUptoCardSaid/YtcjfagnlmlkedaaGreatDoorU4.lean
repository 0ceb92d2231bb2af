/- The claim's texts, part U4: contracts of the functions that the statement reaches, and what they say of the data. -/
import Derived.Test.YtcjfagnlmlkedaaGreatDoorU3
set_option maxRecDepth 100000
set_option maxHeartbeats 8000000
set_option linter.all false
namespace Go.Proofs.YtcjfagnlmlkedaaGreatDoor
open Go.Proofs.Tryz
open Go.RowKit
theorem kB8 {a b:Str} {k:Nat} (h:k<a.size):bt (a++b) k=bt a k:=by
 obtain ⟨c,h1,h2⟩:=at_bt a k h;rw [h2];refine kJD _ k c ?_;rw [ByteArray.data_append,Array.toList_append,List.getElem?_append_left (by rw [Array.length_toList];exact h)];exact h1
theorem kCX {a b:Str} {k:Nat} (h:k<b.size):bt (a++b) (a.size+k)=bt b k:=by
 obtain ⟨c,h1,h2⟩:=at_bt b k h;rw [h2];refine kJD _ _ c ?_;have e:a.data.toList.length=a.size:=by rw [Array.length_toList];rfl
 rw [ByteArray.data_append,Array.toList_append,List.getElem?_append_right (by omega),e,Nat.add_sub_cancel_left];exact h1
theorem kD7 {a b c:Str} {k:Nat} (h:k<b.size):bt (a++(b++c)) (a.size+k)=bt b k:=by
 rw [kCX (by rw [zS];omega),kB8 h]
theorem kIF {a b c:Str}:(a++(b++c)).extract a.size (a.size+b.size)=b:=by
 apply ByteArray.ext;apply Array.toList_inj.1;have e:a.data.toList.length=a.size:=by rw [Array.length_toList];rfl
 have e2:b.data.toList.length=b.size:=by rw [Array.length_toList];rfl
 rw [ByteArray.data_extract,Array.toList_extract,ByteArray.data_append,ByteArray.data_append,Array.toList_append,Array.toList_append,List.extract_eq_take_drop,← e,List.drop_left];rw [Nat.add_sub_cancel_left,← e2,List.take_left]
theorem kCW {a b c:Str}:(a++(b++c)).size=a.size+b.size+c.size:=by rw [zS,zS];omega
theorem dec_fold:∀ (d n:Nat),n≤d→((Lib.decDigits n).map fun c=>(c.toNat:Int)).foldl (fun (m c:Int)=>10 * m+(c - 48)) (0:Int)=(n:Int):=by
 intro d
 induction d with
 | zero =>
   intro n hn;obtain rfl:n=0:=by omega
   rw [Lib.decDigits_one (by decide)];rfl
 | succ d ih =>
   intro n hn;by_cases h:n<10
   · rw [Lib.decDigits_one h]
     have:n=0∨n=1∨n=2∨n=3∨n=4∨n=5∨n=6∨n=7∨n=8∨n=9:=by omega
     rcases this with rfl | rfl | rfl | rfl | rfl | rfl | rfl | rfl | rfl | rfl <;> rfl
   · rw [show Lib.decDigits n=Lib.decDigits (n / 10)++[UInt8.ofNat (48+n % 10)] from by rw [Lib.decDigits,dif_neg h],List.map_append,List.foldl_append,ih (n / 10) (by omega)]
     have:n % 10=0∨n % 10=1∨n % 10=2∨n % 10=3∨n % 10=4∨n % 10=5∨n % 10=6∨n % 10=7∨n % 10=8∨n % 10=9:=by omega
     have hv:((UInt8.ofNat (48+n % 10)).toNat:Int)=48+(n % 10:Nat):=by
      rcases this with h | h | h | h | h | h | h | h | h | h <;> rw [h] <;> rfl
     simp only [List.map_cons,List.map_nil,List.foldl_cons,List.foldl_nil];rw [hv];omega
theorem kG4 (n:Nat):kA4 (n:Int)=⟨(Lib.decDigits n).toArray⟩:=by unfold kA4;rw [Lib.itoa_nonneg]
theorem decV_itoa (n:Nat):decV (kA4 (n:Int))=n:=by
 rw [kG4];unfold decV decK;rw [zT (by rw [nb_length];exact zR _)];exact dec_fold n n (zR _)
theorem nDigits_le:∀ (k n:Nat),n<10 ^ (k+1)→Lib.nDigits n≤k+1
 | 0,n,h=>by rw [Lib.nDigits_small (by simpa using h)];exact zR _
 | k+1,n,h=>by
   by_cases h2:n<10
   · rw [Lib.nDigits_small h2];omega
   · rw [Lib.nDigits_big h2]
     have:=nDigits_le k (n / 10) (by rw [Nat.pow_succ] at h ⊢;rw [Nat.pow_succ] at h;omega);omega
theorem itoa_len {n:Nat} (h:n<10000000):1≤(kA4 (n:Int)).size∧(kA4 (n:Int)).size≤7:=by
 rw [kG4]
 show 1≤(Lib.decDigits n).toArray.size∧(Lib.decDigits n).toArray.size≤7
 rw [List.size_toArray,Lib.decDigits_length];exact ⟨Lib.nDigits_pos n,nDigits_le 6 n h⟩
theorem kDL (n:Nat):∀ i,i<(kA4 (n:Int)).size→kAT (bt (kA4 (n:Int)) i)=true:=fun i hi=>by
 obtain ⟨c,h1,h2⟩:=at_bt _ i hi;rw [h2];rw [kG4] at h1;have:=dec_digit n c (List.mem_of_getElem? h1);exact decide_eq_true (by omega)
theorem itoa_head {n:Nat} (h:10≤n):bt (kA4 (n:Int)) 0≠48:=by
 obtain ⟨c,r,h1,h2⟩:=dec_head n (by omega);rw [kG4];rw [kJD _ 0 c (by show (Lib.decDigits n).toArray.toList[0]? =_;rw [h1];rfl)];omega
theorem itoa_small {n:Nat} (h:n<10):(kA4 (n:Int)).size=1:=by
 rw [kG4,Lib.decDigits_one h];rfl
theorem itoa_plain {n:Nat} (h:n<10000000):longB (kA4 (n:Int))=false∧kFO (kA4 (n:Int))=true:=by
 obtain ⟨h1,h7⟩:=itoa_len h;refine ⟨?_,?_⟩
 · unfold longB
   rw [decide_eq_false (show ¬ 7<(kA4 (n:Int)).size by omega)];by_cases h10:n<10
   · rw [decide_eq_false (show ¬ 1<(kA4 (n:Int)).size by rw [itoa_small h10];decide)];rfl
   · rw [beq_eq_false_iff_ne.2 (itoa_head (n:=n) (by omega)),Bool.and_false];rfl
 · unfold kFO
   rw [decide_eq_true (show 1≤(kA4 (n:Int)).size∧(kA4 (n:Int)).size≤7 from ⟨h1,h7⟩)];by_cases h10:n<10
   · rw [decide_eq_true (show (kA4 (n:Int)).size=1 from itoa_small h10),Bool.or_true];rfl
   · rw [bne_iff_ne.2 (itoa_head (n:=n) (by omega))];rfl
theorem name_bytes {v:Str} (h:kAZ v=true):0<v.size∧(kBA (bt v 0)=true∨bt v 0=95)∧∀ i,i<v.size→(kAT (bt v i)=true∨kBA (bt v i)=true∨(bt v i=95∧i=0)):=by
 unfold kAZ at h
 split at h
 · rename_i h95
   rw [zA] at h;have h1:=of_decide_eq_true h.1;refine ⟨by omega,.inr h95,fun i hi=>?_⟩;have h2:=List.all_eq_true.1 h.2 i (List.mem_range.2 hi);rw [Bool.or_eq_true,beq_iff_eq] at h2;rcases h2 with h2 | h2
   · exact .inr (.inr ⟨by rw [h2];exact h95,h2⟩)
   · exact .inl h2
 · rw [zA] at h
   have h1:=of_decide_eq_true h.1;have hall:∀ i,i<v.size→(kBA (bt v i) || (i != 0 && kAT (bt v i)))=true:=fun i hi=>List.all_eq_true.1 h.2 i (List.mem_range.2 hi)
   refine ⟨by omega,?_,fun i hi=>?_⟩
   · have:=hall 0 (by omega)
     simp at this;exact .inl this
   · have:=hall i hi
     rw [Bool.or_eq_true,zA] at this;rcases this with h2 | h2
     · exact .inr (.inl h2)
     · exact .inl h2.2
theorem kGY {c:Int} (h:c=43∨c=45):kAT c=false∧kBA c=false∧(c==95)=false∧(c==32)=false∧(c==42)=false:=by
 rcases h with rfl | rfl <;> decide
theorem letter_not {c:Int} (h:kBA c=true∨c=95):kAT c=false∧(c==32)=false∧(c==42)=false∧kB0 c=true∧(kBA c || c==95)=true:=by
 rcases h with h | rfl
 · have:=of_decide_eq_true h
   refine ⟨decide_eq_false (by omega),beq_eq_false_iff_ne.2 (by omega),beq_eq_false_iff_ne.2 (by omega),?_,?_⟩
   · unfold kB0;rw [h];rfl
   · rw [h];rfl
 · decide
def numS (n:Nat) (v:Str):Str:=if v.toList.isEmpty=false∧n=1 then ⟨#[]⟩ else kA4 (n:Int)
def kBF (n:Nat) (v:Str):Str:=numS n v++v
structure PartOk (n:Nat) (v:Str):Prop where
 hi:n<10000000
 name:v.toList.isEmpty=false→kAZ v=true∧0<n
def ItemLaw (it:Str→Nat→Int × Str × Bool × Nat):Prop :=
 ∀ (pre rest:Str) (n:Nat) (v:Str),PartOk n v→(rest.size=0∨(0<rest.size∧(bt rest 0=43∨bt rest 0=45))) →
  it (pre++(kBF n v++rest)) pre.size=((n:Int),v,true,pre.size+(kBF n v).size)
theorem empty_eq {v:Str} (h:v.toList.isEmpty=true):v=⟨#[]⟩:=by
 have:=kGE h;exact ByteArray.ext (Array.eq_empty_of_size_eq_zero this)
theorem run_mid {P:Nat→Bool} {a b c:Str} (h:∀ i,i<b.size→P (a.size+i)=true) (he:0<c.size→P (a.size+b.size)=false):kDG P (a++(b++c)).size a.size=a.size+b.size:=by
 refine runTo_eq b.size _ _ rfl (by rw [kCW];omega) (fun j h1 h2=>?_) (fun hl=>he (by rw [kCW] at hl;omega));have:=h (j - a.size) (by omega)
 rwa [show a.size+(j - a.size)=j by omega] at this
theorem kEP {a b c:Str} (h:0<c.size):bt (a++(b++c)) (a.size+b.size)=bt c 0:=by
 rw [← ByteArray.append_assoc,← zS];have:=kCX (a:=a++b) (b:=c) (k:=0) h
 rwa [Nat.add_zero] at this
theorem nameP_ok {s:Str} {n:Int} {k k0:Nat} (hkk:k0≤k) (hk:k≤s.size) (h0:0≤n) (h1:n<10000000) (h:(nameP n s k).2.2.1=true):ItemOk s k0 (nameP n s k):=⟨h0,h1,fun _=>h,kIU hk,zE hkk (kF2 _ _ _)⟩
theorem itemP_ok {s:Str} {k:Nat} (hk:k≤s.size) (h:(kBU s k).2.2.1=true):ItemOk s k (kBU s k):=by
 have hke:k≤runD s k:=kF2 _ _ _;have hes:runD s k≤s.size:=kIU hk;have hdg:=kH7 hk;unfold kBU at h ⊢;by_cases hz:s.size≤k
 · rw [if_pos hz] at h;cases h
 · rw [if_neg hz] at h ⊢
   by_cases hd:kAT (bt s k)=true
   · rw [if_pos hd] at h ⊢
     by_cases hn:kFO (s.extract k (runD s k))=true
     · rw [if_pos hn] at h ⊢
       have hb:0≤decV (s.extract k (runD s k))∧decV (s.extract k (runD s k))<10000000:=by
        unfold kFO at hn;rw [zA] at hn;exact decK_lt hdg (of_decide_eq_true hn.1).2 (zR _)
       unfold itemQ at h ⊢
       split at h
       · rename_i ha
         rw [if_pos ha];have h2:=blk_le (kG5 ha);exact nameP_ok (zE hke (zE (kF2 _ _ _) (zE (Nat.le_succ _) (kF2 _ _ _)))) h2 hb.1 hb.2 h
       · rename_i ha
         rw [if_neg ha]
         split at h
         · rename_i hq
           rw [if_pos hq];exact ⟨hb.1,hb.2,fun q=>absurd q (by show ¬ (⟨#[]⟩:Str).toList.isEmpty=false;rw [ByteArray.toList_eq];decide),hes,hke⟩
         · rename_i hq
           rw [if_neg hq];exact nameP_ok hke hes hb.1 hb.2 h
     · rw [if_neg hn] at h;cases h
   · rw [if_neg hd] at h ⊢
     exact nameP_ok (zR _) hk (by decide) (by decide) h
theorem isAt_not {s:Str} {k:Nat} (h:isAt s k 43=true):isAt s k 45=false:=by
 unfold isAt at *;rw [zA] at h;have h2:=beq_iff_eq.1 h.2;rw [h2];exact Bool.and_false _
theorem start_sign (s:Str):startK s=kF0 s (blk s 0)∧startS s=kH6 s (blk s 0):=by
 unfold startK startS kF0 kH6;cases h:isAt s (blk s 0) 43 with
 | true =>
   rw [isAt_not h];refine ⟨?_,by simp⟩;unfold isTo;rw [h];rfl
 | false =>
   cases h2:isAt s (blk s 0) 45 with
   | true=>refine ⟨?_,by simp⟩;unfold isTo;rw [h2];first | done | rfl
   | false=>refine ⟨?_,by simp⟩;unfold isTo;rw [h,h2];first | done | rfl
structure QSt (s:Str) (k n:Nat) (x:Lin) (w W:World):Prop where
 st:RSt s k (w.heap.size+1+1) (w.heap.size+1) n x W
 res:Bx W w.heap.size 40 [.int .i64 0,.slice none 0 0]
 below:Below w.heap.size w W
 le:k≤s.size
theorem QSt.step {s:Str} {k k' n:Nat} {x:Lin} {w W W':World} (h:QSt s k n x w W) (hx:kEE s k' (w.heap.size+1+1) x.const (w.heap.size+1) W') (hk:Kb (w.heap.size+1+1) W W') (hl:k'≤s.size):QSt s k' n x w W' :=
 ⟨h.st.step hx hk,h.res.kb hk (by omega),h.below.trans (hk.below (by omega) h.below.size),hl⟩
theorem QSt.k2 {s:Str} {k n:Nat} {x:Lin} {w W W':World} (h:QSt s k n x w W) (hk:K2 (w.heap.size+1+1) (w.heap.size+1) W W'):Bx W' w.heap.size 40 [.int .i64 0,.slice none 0 0]∧Below w.heap.size w W' :=
 ⟨hk.bx h.res (by omega) (by omega),h.below.trans (hk.below (by omega) (by omega) h.below.size)⟩
theorem linear_Parse (s:Str) (hs:s.size≤900) (w:World) (E:Env w) :
 Calls Tryz.prog 46 #[.string s] w fun e w'=>(∃ ds,e= .returned (.tuple #[.agg ds.toArray,.int .i64 (lossE (kB9 (kBU s) s))])∧RLin.rd (fun k=>w.heap.size≤k) w' ds (lossX (kB9 (kBU s) s)))∧Below w.heap.size w w':=by
 have HP0:loopG (kBU s) s (s.size+1) (kF0 s (blk s 0)) (kH6 s (blk s 0)) ⟨0,[]⟩=kB9 (kBU s) s:=by rw [← (start_sign s).1,← (start_sign s).2];rfl
 have HP:=hJ HP0;have HIt:Hid (∀ k,k≤s.size→(kBU s k).2.2.1=true→ItemOk s k (kBU s k)):=hJ (fun k hk h=>itemP_ok hk h);have HE:=hJ E;have h8:8≤w.heap.size:=E.big;clear HP0 E;generalize kB9 (kBU s) s=res at *;have HSe:∀ k,(s.extract k s.size).size=s.size - k:=fun k=>kDO s (zR _)
 have HSe:=hJ HSe
 have HQ0:Hid (QSt s 0 0 ⟨0,[]⟩ w (((w.alloc (.cells #[.int .i64 0,.slice none 0 0] 40)).alloc (.map #[] 0)).alloc (.cells #[.string s,.int .i64 0,.map (some (w.heap.size+1))] 135))):=hJ (by
  have h1:=Bx.fresh w 40 [.int .i64 0,.slice none 0 0];have e1:(w.alloc (.cells #[.int .i64 0,.slice none 0 0] 40)).heap.size=w.heap.size+1:=by simp
  have h2:=MapF.made (w.alloc (.cells #[.int .i64 0,.slice none 0 0] 40));rw [e1] at h2;have e2:((w.alloc (.cells #[.int .i64 0,.slice none 0 0] 40)).alloc (.map #[] 0)).heap.size=w.heap.size+1+1:=by simp
  have h3:=Bx.fresh ((w.alloc (.cells #[.int .i64 0,.slice none 0 0] 40)).alloc (.map #[] 0)) 135 [.string s,.int .i64 0,.map (some (w.heap.size+1))];rw [e2] at h3;refine ⟨⟨by unfold kEE;rw [show s.extract 0 s.size=s from ByteArray.extract_zero_size];exact h3,⟨_,h2.kept ((zB _ _).alloc (zR _) _)⟩,by omega⟩,(h1.alloc _).alloc _,(((zB _ _).alloc (zR _) _).alloc (by omega) _).alloc (by omega) _,Nat.zero_le _⟩)
 have hmm:= @run_makeMap Tryz.prog;go_enter func46,ntmps46
 go_wp2_with fail
 clear hmm;generalize (((w.alloc (.cells #[.int .i64 0,.slice none 0 0] 40)).alloc (.map #[] 0)).alloc (.cells #[.string s,.int .i64 0,.map (some (w.heap.size+1))] 135))=W at *;refine (kHK s 0 _ _ _ _ HQ0.out.st.rd).mono ?_;rintro e w1 ⟨rfl,hx,hk⟩;have hb0:blk s 0≤s.size:=blk_le (Nat.zero_le _);have HQ1:=hJ (HQ0.out.step hx hk hb0);clear hx hk HQ0;generalize blk s 0=b0 at *
 go_wp2_with fail
 refine (rdr_sign s (by omega) b0 _ _ _ _ HQ1.out.st.rd hb0).mono ?_;rintro e w2 ⟨rfl,hx,hk⟩
 have hk2:kF0 s b0≤s.size:=by
  unfold kF0 isTo
  split
  · rename_i q;exact kG5 q
  · split
    · rename_i q;exact kG5 q
    · exact hb0
 have hsv:kH6 s b0=1∨kH6 s b0= -1:=by unfold kH6;split <;> (try split) <;> simp
 have HQ2:=hJ (HQ1.out.step hx hk hk2);clear hx hk HQ1;generalize kF0 s b0=k0 at *;generalize kH6 s b0=s0 at *
 go_wp2_with fail
 go_loopg [6] (s.size+1) (fun g sv wr=>∃ (k m n:Nat) (sg:Int) (x:Lin),sv= .int .i64 sg∧(sg=1∨sg= -1)∧m≤k∧n≤m∧s.size<k+g∧Hid (AccOk m x)∧Hid (QSt s k n x w wr)∧Hid (loopG (kBU s) s g k sg x=res))
 case atStart=>exact ⟨k0,0,0,_,_,rfl,hsv,Nat.zero_le _,zR _,by omega,hJ (AccOk.zero 0),HQ2,HP⟩
 case round =>
  clear HQ2 HP hsv;obtain ⟨k,m,n,sg,x,rfl,hsg,hmk,hnm,hkg,HA,HS,HLp⟩:=hrel;have hk:=HS.out.le;obtain ⟨g,rfl⟩:∃ g,gk=g+1:=⟨gk - 1,by omega⟩
  go_wp2_with fail
  refine (kHK s k _ _ _ _ HS.out.st.rd).mono ?_;rintro e w3 ⟨rfl,hx,hk3⟩;have hb0:blk s k≤s.size:=blk_le hk;have hkb:k≤blk s k:=kF2 _ _ _;have HS3:=hJ (HS.out.step hx hk3 hb0);have hu:=HLp.out;rw [loopG] at hu;clear hx hk3 HS HLp;generalize blk s k=b0 at *
  go_wp2_with fail
  refine (rdr_item s (by omega) b0 _ _ n m x _ HS3.out.st hb0 sg hsg (HE.out.keep HS3.out.below h8) (by omega) (by omega) HA.out (by omega) (by omega)).mono ?_;rintro e w4 ⟨rfl,hk4,hst⟩;have HI:=hJ (HIt.out b0 hb0);obtain ⟨hres4,hbl4⟩:=HS3.out.k2 hk4;generalize kBU s b0=r at *;obtain ⟨r1,r2,r3,r4⟩:=r;cases r3 with
  | false =>
    dsimp only at hu hst;rw [if_neg (by decide)] at hu;have HF:=hJ hu;have HRs:=hJ hres4;have HBl:=hJ hbl4;clear hu hst hk4 HI HS3 hres4 hbl4;have z0:=HRs.out.cell 0 _ rfl;have z1:=HRs.out.cell 1 _ rfl;have f0:=HRs.out.fz 0;have f1:=HRs.out.fz 1;have hl0:=HRs.out.lt;have HZz:=hJ ((HRs.out.set 0 (.int .i64 0)).set 1 (.slice none 0 0));have s0:=HZz.out.cell 0 _ rfl;have s1:=HZz.out.cell 1 _ rfl
    go_wp2_with fail
    refine bodyPost_ret (v:=.tuple #[.agg #[.int .i64 0,.slice none 0 0],.int .i64 6]) (by simp [results,results46,go_sem,s0,s1,hl0]) rfl ?_;exact ⟨⟨_,by rw [← HF.out];rfl,by rw [← HF.out];exact RLin.zero _ _⟩,(HBl.out.setCell (zR _) _).setCell (zR _) _⟩
  | true =>
    have HIo:=hJ (HI.out rfl);rw [if_pos rfl] at hu;obtain ⟨n',hn',hst4⟩:=hst rfl;have hbr:=HIo.out.ge;have HS5:Hid (QSt s r4 n' (kER x (sg * r1) r2) w w4):=hJ ⟨hst4,hres4,hbl4,HIo.out.le⟩;have HA2:=hJ (HA.out.next HIo.out hsg);have HL2:=hJ hu;dsimp only at hbr HA2 HL2;clear hu hst hst4 hk4 HI HS3 hres4 hbl4 HA HIo;generalize kER x (sg * r1) r2=acc at *
    go_wp2_with fail
    refine (kHK s r4 _ _ _ _ HS5.out.st.rd).mono ?_;rintro e w6 ⟨rfl,hx,hk6⟩;have hb6:blk s r4≤s.size:=blk_le HS5.out.le;have hrb:r4≤blk s r4:=kF2 _ _ _;have HS6:=hJ (HS5.out.step hx hk6 hb6);clear hx hk6 HS5;generalize blk s r4=b6 at *;have y0:=HS6.out.st.rd.cell 0 _ rfl;have hsz:=HSe.out b6;by_cases hend:b6=s.size
    · have hem:(s.extract b6 s.size).toList.isEmpty=true:=by rw [ByteArray.toList_eq,show (s.extract b6 s.size).data.toList=[] from zL (by rw [Array.length_toList];show (s.extract b6 s.size).size=0;omega)];rfl
      have hf:=HL2.out;rw [if_pos hend] at hf;have HF:=hJ hf;have hszl:szL acc:=fun t ht=>zE (kC7 (HA2.out.names t ht)) (by decide)
      obtain ⟨D6,hM6⟩:=HS6.out.st.mp;have HC:=hJ (kIN (w.heap.size+1+1) 1 (w.heap.size+1) n' D6 acc HA2.out.srt HA2.out.nz hszl HS6.out.st.rd rfl rfl hM6 (by omega) (HE.out.keep HS6.out.below h8));clear hf HL2 hM6 hszl;generalize s.extract b6 s.size=rs at *
      go_wp2_with fail
      refine HC.out.mono ?_;rintro e w8 ⟨⟨ds,rfl,hr⟩,hb8⟩;have HRs:=hJ (HS6.out.res.below hb8 HS6.out.res.lt);have HBl:=hJ (HS6.out.below.trans (hb8.mono HS6.out.below.size));have hlt6:=HS6.out.st.rd.lt;have HFx:Hid (lossE (some acc)=limE acc∧lossX (some acc)=limL acc):=hJ ⟨rfl,rfl⟩;clear hb8 HS6 HC y0;generalize limL acc=lx at *;generalize limE acc=le at *;obtain ⟨t8,rfl,a8,c8,rfl,hs8⟩:=hr;have HSl8:=hJ hs8;clear hs8;have z0:=HRs.out.cell 0 _ rfl;have z1:=HRs.out.cell 1 _ rfl;have f0:=HRs.out.fz 0;have f1:=HRs.out.fz 1;have hl0:=HRs.out.lt;have HZz:=hJ ((HRs.out.set 0 (.int .i64 lx.const)).set 1 (.slice a8 lx.terms.length c8));have s0:=HZz.out.cell 0 _ rfl;have s1:=HZz.out.cell 1 _ rfl
      go_wp2_with fail
      refine bodyPost_ret (v:=.tuple #[.agg #[.int .i64 lx.const,.slice a8 lx.terms.length c8],.int .i64 le]) (by simp [results,results46,go_sem,s0,s1,hl0]) rfl ?_
      have hrd:RLin.rd (fun k=>w.heap.size≤k) ((w8.setCell ⟨w.heap.size,0,none⟩ (.int .i64 lx.const)).setCell ⟨w.heap.size,1,none⟩ (.slice a8 lx.terms.length c8)) [.int .i64 lx.const,.slice a8 lx.terms.length c8] lx:=⟨_,rfl,a8,c8,rfl,(HSl8.out.frame fun q hq _=>by
       have:w6.heap.size≤q:=hq;rw [kAA (by show w.heap.size≠q;omega),kAA (by show w.heap.size≠q;omega)]).mono (fun q hq _=>by have:w6.heap.size≤q:=hq;omega)⟩
      exact ⟨⟨_,by rw [← HF.out,HFx.out.1],by rw [← HF.out,HFx.out.2];exact hrd⟩,(HBl.out.setCell (zR _) _).setCell (zR _) _⟩
    · have hem:(s.extract b6 s.size).toList.isEmpty=false:=by
       cases he:(s.extract b6 s.size).toList.isEmpty with
       | false=>rfl
       | true=>have:=kGE he;omega
      have hf:=HL2.out;rw [if_neg hend] at hf;generalize s.extract b6 s.size=rs at *
      go_wp2_with fail
      clear y0;refine (rdr_sign s (by omega) b6 _ _ _ _ HS6.out.st.rd hb6).mono ?_;rintro e w8 ⟨rfl,hx,hk8⟩;cases h43:isAt s b6 43 with
      | true =>
        have h45:=isAt_not h43;have e1:kF0 s b6=b6+1:=by unfold kF0;rw [h43];rfl
        have e2:kH6 s b6=1:=by unfold kH6;rw [h43];rfl
        have e3:signB s b6=true:=by unfold signB;rw [h43];rfl
        have hb8:=kG5 h43;rw [e1] at hx;rw [if_neg (by rw [h45];decide),if_pos h43] at hf;have HF:=hJ hf;have HS8:=hJ (HS6.out.step hx hk8 hb8);clear hx hk8 HS6 hf e1 h43 h45;rw [e2,e3]
        go_wp2_with fail
        go_roundg g
        case measure=>omega
        case rel=>exact ⟨b6+1,m+1,n',1,acc,rfl,.inl rfl,by omega,by omega,by omega,HA2,HS8,HF⟩
      | false =>
        cases h45:isAt s b6 45 with
        | true =>
          have e1:kF0 s b6=b6+1:=by unfold kF0 isTo;rw [h43,h45];rfl
          have e2:kH6 s b6= -1:=by unfold kH6;rw [h43,h45];rfl
          have e3:signB s b6=true:=by unfold signB;rw [h43,h45];rfl
          have hb8:=kG5 h45;rw [e1] at hx;rw [if_pos h45] at hf;have HF:=hJ hf;have HS8:=hJ (HS6.out.step hx hk8 hb8);clear hx hk8 HS6 hf e1 h43 h45;rw [e2,e3]
          go_wp2_with fail
          go_roundg g
          case measure=>omega
          case rel=>exact ⟨b6+1,m+1,n',-1,acc,rfl,.inr rfl,by omega,by omega,by omega,HA2,HS8,HF⟩
        | false =>
          have e1:kF0 s b6=b6:=by unfold kF0 isTo;rw [h43,h45];rfl
          have e3:signB s b6=false:=by unfold signB;rw [h43,h45];rfl
          rw [e1] at hx;rw [if_neg (by rw [h45];decide),if_neg (by rw [h43];decide)] at hf;have HF:=hJ hf;have HS8:=hJ (HS6.out.step hx hk8 hb6);have HRs:=hJ HS8.out.res;have HBl:=hJ HS8.out.below;clear hx hk8 HS6 hf e1 h43 h45;rw [e3];have z0:=HRs.out.cell 0 _ rfl;have z1:=HRs.out.cell 1 _ rfl;have f0:=HRs.out.fz 0;have f1:=HRs.out.fz 1;have hl0:=HRs.out.lt;have HZz:=hJ ((HRs.out.set 0 (.int .i64 0)).set 1 (.slice none 0 0));have s0:=HZz.out.cell 0 _ rfl;have s1:=HZz.out.cell 1 _ rfl
          go_wp2_with fail
          refine bodyPost_ret (v:=.tuple #[.agg #[.int .i64 0,.slice none 0 0],.int .i64 6]) (by simp [results,results46,go_sem,s0,s1,hl0]) rfl ?_;exact ⟨⟨_,by rw [← HF.out];rfl,by rw [← HF.out];exact RLin.zero _ _⟩,(HBl.out.setCell (zR _) _).setCell (zR _) _⟩
theorem itemP_law:ItemLaw kBU:=by
 intro pre rest n v hp hr;have hq:=hp.hi
 have hrest:0<rest.size→(bt rest 0=43∨bt rest 0=45):=fun h=>by
  rcases hr with q | q
  · omega
  · exact q.2
 cases hv:v.toList.isEmpty with
 | true =>
   obtain rfl:=empty_eq hv;have hb:kBF n ⟨#[]⟩=kA4 (n:Int):=by unfold kBF numS;rw [if_neg (by rw [hv];simp),kFC]
   rw [hb];obtain ⟨hz1,hz7⟩:=itoa_len hq
   have hrun:runD (pre++(kA4 (n:Int)++rest)) pre.size=pre.size+(kA4 (n:Int)).size:=by
    refine run_mid (fun i hi=>?_) (fun h=>?_)
    · rw [kD7 hi,kDL n i hi]
    · rw [kEP h];exact (kGY (hrest h)).1
   have h0:bt (pre++(kA4 (n:Int)++rest)) pre.size=bt (kA4 (n:Int)) 0:=by
    have:=kD7 (a:=pre) (b:=kA4 (n:Int)) (c:=rest) (k:=0) (by omega)
    rwa [Nat.add_zero] at this
   have hbl:blk (pre++(kA4 (n:Int)++rest)) (pre.size+(kA4 (n:Int)).size)=pre.size+(kA4 (n:Int)).size:=by
    rcases Nat.eq_zero_or_pos rest.size with h | h
    · exact kCZ (by rw [kCW];omega)
    · exact kC6 (by rw [kEP h];exact (kGY (hrest h)).2.2.2.1)
   have hs:isAt (pre++(kA4 (n:Int)++rest)) (pre.size+(kA4 (n:Int)).size) 42=false:=by
    unfold isAt;rcases Nat.eq_zero_or_pos rest.size with h | h
    · rw [decide_eq_false (by rw [kCW];omega)];rfl
    · rw [kEP h,(kGY (hrest h)).2.2.2.2,Bool.and_false]
   have hl:(decide ((pre++(kA4 (n:Int)++rest)).size≤pre.size+(kA4 (n:Int)).size) || !kB0 (bt (pre++(kA4 (n:Int)++rest)) (pre.size+(kA4 (n:Int)).size)))=true:=by
    rcases Nat.eq_zero_or_pos rest.size with h | h
    · rw [decide_eq_true (by rw [kCW];omega)];rfl
    · have:=kGY (hrest h)
      rw [kEP h];unfold kB0;rw [this.1,this.2.1,this.2.2.1];simp
   unfold kBU;rw [if_neg (by rw [kCW];omega),h0,if_pos (kDL n 0 (by omega)),hrun,kIF,if_pos (itoa_plain hq).2,decV_itoa];unfold itemQ;rw [hbl,hs,if_neg (by decide),if_pos hl]
 | false =>
   obtain ⟨hn,hpos⟩:=hp.name hv;obtain ⟨v0,vh,va⟩:=name_bytes hn;have hvl:=letter_not vh
   have hP:∀ i,i<v.size→kB0 (bt v i)=true:=fun i hi=>by
    unfold kB0;rcases va i hi with q | q | ⟨q,q2⟩
    · rw [q];simp
    · rw [q];rfl
    · rw [q];decide
   have hS:∀ c,c=43∨c=45→kB0 c=false:=fun c hc=>by
    have:=kGY hc;unfold kB0;rw [this.1,this.2.1,this.2.2.1];rfl
   by_cases h1:n=1
   · subst h1
     have hb:kBF 1 v=v:=by unfold kBF numS;rw [if_pos ⟨hv,rfl⟩,kGZ]
     rw [hb]
     have h0:bt (pre++(v++rest)) pre.size=bt v 0:=by
      have:=kD7 (a:=pre) (b:=v) (c:=rest) v0
      rwa [Nat.add_zero] at this
     have hrun:runL (pre++(v++rest)) pre.size=pre.size+v.size:=by
      refine run_mid (fun i hi=>?_) (fun h=>?_)
      · rw [kD7 hi];exact hP i hi
      · rw [kEP h];exact hS _ (hrest h)
     unfold kBU;rw [if_neg (by rw [kCW];omega),h0,if_neg (by rw [hvl.1];decide)];unfold nameP;rw [hrun,kIF,hn];rfl
   · have hb:kBF n v=kA4 (n:Int)++v:=by unfold kBF numS;rw [if_neg (fun q=>h1 q.2)]
     rw [hb];obtain ⟨hz1,hz7⟩:=itoa_len hq;have hsp:pre++(kA4 (n:Int)++v++rest)=pre++(kA4 (n:Int)++(v++rest)):=by rw [ByteArray.append_assoc]
     have hsq:pre++(kA4 (n:Int)++(v++rest))=(pre++kA4 (n:Int))++(v++rest):=by rw [ByteArray.append_assoc]
     rw [hsp];have hvr:0<(v++rest).size:=by rw [zS];omega
     have hbv:bt (v++rest) 0=bt v 0:=kB8 v0
     have hrun:runD (pre++(kA4 (n:Int)++(v++rest))) pre.size=pre.size+(kA4 (n:Int)).size:=by
      refine run_mid (fun i hi=>?_) (fun h=>?_)
      · rw [kD7 hi,kDL n i hi]
      · rw [kEP h,hbv];exact hvl.1
     have h0:bt (pre++(kA4 (n:Int)++(v++rest))) pre.size=bt (kA4 (n:Int)) 0:=by
      have:=kD7 (a:=pre) (b:=kA4 (n:Int)) (c:=v++rest) (k:=0) (by omega)
      rwa [Nat.add_zero] at this
     have hbl:blk (pre++(kA4 (n:Int)++(v++rest))) (pre.size+(kA4 (n:Int)).size)=pre.size+(kA4 (n:Int)).size:=kC6 (by rw [kEP hvr,hbv];exact hvl.2.1)
     have hs:isAt (pre++(kA4 (n:Int)++(v++rest))) (pre.size+(kA4 (n:Int)).size) 42=false:=by
      unfold isAt;rw [kEP hvr,hbv,hvl.2.2.1,Bool.and_false]
     have hl:(decide ((pre++(kA4 (n:Int)++(v++rest))).size≤pre.size+(kA4 (n:Int)).size) || !kB0 (bt (pre++(kA4 (n:Int)++(v++rest))) (pre.size+(kA4 (n:Int)).size)))=false:=by
      rw [decide_eq_false (by rw [kCW];omega),kEP hvr,hbv,hvl.2.2.2.1];rfl
     unfold kBU;rw [if_neg (by rw [kCW];omega),h0,if_pos (kDL n 0 (by omega)),hrun,kIF,if_pos (itoa_plain hq).2,decV_itoa];unfold itemQ;rw [hbl,hs,if_neg (by decide),if_neg (by rw [hl];decide)];unfold nameP;rw [hsq,← zS]
     have hrun2:runL ((pre++kA4 (n:Int))++(v++rest)) (pre++kA4 (n:Int)).size=(pre++kA4 (n:Int)).size+v.size:=by
      refine run_mid (fun i hi=>?_) (fun h=>?_)
      · rw [kD7 hi];exact hP i hi
      · rw [kEP h];exact hS _ (hrest h)
     rw [hrun2,kIF,hn]
     congr 3
     rw [zS,zS];omega
def sgnS (n:Int):Str:=if n<0 then ⟨#[45]⟩ else ⟨#[43]⟩
def kBZ:List (Int × Str)→Str
 | []=>⟨#[]⟩
 | p :: l=>sgnS p.1++(kBF p.1.natAbs p.2++kBZ l)
def PairOk (p:Int × Str):Prop:=PartOk p.1.natAbs p.2
def sg (n:Int):Int:=if n<0 then -1 else 1
theorem sg_abs (n:Int):sg n * ((n.natAbs:Nat):Int)=n:=by unfold sg;split <;> omega
theorem kHF (n:Int):(sgnS n).size=1:=by unfold sgnS;split <;> rfl
theorem sgn_bt (n:Int):bt (sgnS n) 0=if n<0 then 45 else 43:=by unfold sgnS;split <;> decide
theorem kJE {n:Nat} {v:Str} (h:PartOk n v):0<(kBF n v).size∧(bt (kBF n v) 0==32)=false∧(bt (kBF n v) 0==45)=false∧(bt (kBF n v) 0==43)=false:=by
 unfold kBF numS
 split
 · rename_i q
   obtain ⟨hn,_⟩:=h.name q.1;obtain ⟨v0,vh,_⟩:=name_bytes hn;rw [kGZ];refine ⟨v0,(letter_not vh).2.1,?_,?_⟩
   · rcases vh with e | e
     · have:=of_decide_eq_true e;exact beq_eq_false_iff_ne.2 (by omega)
     · rw [e];decide
   · rcases vh with e | e
     · have:=of_decide_eq_true e;exact beq_eq_false_iff_ne.2 (by omega)
     · rw [e];decide
 · have h1:=(itoa_len h.hi).1
   have hd:=of_decide_eq_true (kDL n 0 (by omega));rw [kB8 (by omega)];refine ⟨by rw [zS];omega,beq_eq_false_iff_ne.2 (by omega),beq_eq_false_iff_ne.2 (by omega),beq_eq_false_iff_ne.2 (by omega)⟩
theorem tail_stop (l:List (Int × Str)):(kBZ l).size=0∨(0<(kBZ l).size∧(bt (kBZ l) 0=43∨bt (kBZ l) 0=45)):=by
 cases l with
 | nil=>exact .inl rfl
 | cons p l =>
   right
   unfold kBZ;rw [zS,kB8 (by rw [kHF];decide),sgn_bt,kHF];refine ⟨by omega,?_⟩
   split <;> simp
def accs:Lin→List (Int × Str)→Lin
 | x,[]=>x
 | x,p :: l=>accs (kER x p.1 p.2) l
theorem loop_law {it:Str→Nat→Int × Str × Bool × Nat} (hit:ItemLaw it):∀ (l:List (Int × Str)) (p:Int × Str) (pre:Str) (f:Nat) (out:Lin),PairOk p→(∀ q ∈ l,PairOk q)→l.length<f →
 loopG (it (pre++(kBF p.1.natAbs p.2++kBZ l))) (pre++(kBF p.1.natAbs p.2++kBZ l)) f pre.size (sg p.1) out=some (accs out (p :: l)):=by
 intro l
 induction l with
 | nil =>
   intro p pre f out hp _ hf;obtain ⟨f,rfl⟩:∃ g,f=g+1:=⟨f - 1,by omega⟩
   obtain ⟨b0,b1,_⟩:=kJE hp
   have hb:blk (pre++(kBF p.1.natAbs p.2++kBZ [])) pre.size=pre.size:=kC6 (by
    have:=kD7 (a:=pre) (b:=kBF p.1.natAbs p.2) (c:=kBZ []) b0;rw [Nat.add_zero] at this;rw [this];exact b1)
   have hi:=hit pre (kBZ []) p.1.natAbs p.2 hp (.inl rfl);have hz:(pre++(kBF p.1.natAbs p.2++kBZ [])).size=pre.size+(kBF p.1.natAbs p.2).size:=by rw [kCW];rfl
   have hb2:blk (pre++(kBF p.1.natAbs p.2++kBZ [])) (pre.size+(kBF p.1.natAbs p.2).size)=pre.size+(kBF p.1.natAbs p.2).size:=kCZ (by omega);rw [loopG,hb,hi];dsimp only;rw [if_pos rfl,hb2,if_pos hz.symm,sg_abs];rfl
 | cons q l ih =>
   intro p pre f out hp hl hf;obtain ⟨f,rfl⟩:∃ g,f=g+1:=⟨f - 1,by omega⟩
   obtain ⟨b0,b1,_⟩:=kJE hp
   have hb:blk (pre++(kBF p.1.natAbs p.2++kBZ (q :: l))) pre.size=pre.size:=kC6 (by
    have:=kD7 (a:=pre) (b:=kBF p.1.natAbs p.2) (c:=kBZ (q :: l)) b0;rw [Nat.add_zero] at this;rw [this];exact b1)
   have hi:=hit pre (kBZ (q :: l)) p.1.natAbs p.2 hp (tail_stop _);have ht:0<(kBZ (q :: l)).size:=by unfold kBZ;rw [zS,kHF];omega
   have hbt:bt (pre++(kBF p.1.natAbs p.2++kBZ (q :: l))) (pre.size+(kBF p.1.natAbs p.2).size)=if q.1<0 then 45 else 43:=by
    rw [kEP ht];unfold kBZ;rw [kB8 (by rw [kHF];decide),sgn_bt]
   have hb2:blk (pre++(kBF p.1.natAbs p.2++kBZ (q :: l))) (pre.size+(kBF p.1.natAbs p.2).size)=pre.size+(kBF p.1.natAbs p.2).size:=kC6 (by rw [hbt];split <;> decide);have hlt:pre.size+(kBF p.1.natAbs p.2).size<(pre++(kBF p.1.natAbs p.2++kBZ (q :: l))).size:=by rw [kCW];omega
   have hsp:pre++(kBF p.1.natAbs p.2++kBZ (q :: l))=(pre++(kBF p.1.natAbs p.2++sgnS q.1))++(kBF q.1.natAbs q.2++kBZ l):=by
    rw [show kBZ (q :: l)=sgnS q.1++(kBF q.1.natAbs q.2++kBZ l) from rfl];simp only [ByteArray.append_assoc]
   have hsz:(pre++(kBF p.1.natAbs p.2++sgnS q.1)).size=pre.size+(kBF p.1.natAbs p.2).size+1:=by rw [kCW,kHF]
   have hih:=ih q (pre++(kBF p.1.natAbs p.2++sgnS q.1)) f (kER out p.1 p.2) (hl q (zM ..)) (fun z hz=>hl z (zO _ hz)) (by rw [List.length_cons] at hf;omega);rw [← hsp,hsz] at hih;rw [loopG,hb,hi];dsimp only;rw [if_pos rfl,hb2,if_neg (by omega),sg_abs];unfold isAt;rw [hbt,decide_eq_true hlt];by_cases hq:q.1<0
   · rw [if_pos hq,if_pos (by decide)]
     rw [show sg q.1= -1 from if_pos hq] at hih;exact hih
   · rw [if_neg hq,if_neg (by decide),if_pos (by decide)]
     rw [show sg q.1=1 from if_neg hq] at hih;exact hih
theorem ins_last (s:Str) (c:Int):∀ (l:List Coef),(∀ t ∈ l,slt t.v s=true)→ins s c l=l++[⟨s,c⟩]
 | [],_=>rfl
 | t :: l,h=>by
   have ht:=h t (zM ..);have e1:slt s t.v=false:=kFK ht;have e2:seq t.v s=false:=slt_ne ht;have e3:seq s t.v=false:=by rw [kHG];exact e2
   unfold ins;have ih:=ins_last s c l (fun u hu=>h u (zO _ hu));simp [e1,e2,e3,ht,ih]
theorem plus_last {l:List Coef} {t:Coef} (hs:Srt (l++[t])) (hn:Nz (l++[t])):plus l t.v t.c=l++[t]:=by
 have h1:Srt l:=List.Pairwise.sublist (List.sublist_append_left l [t]) hs;have h2:∀ u ∈ l,slt u.v t.v=true:=fun u hu=>(List.pairwise_append.1 hs).2.2 u hu t (List.mem_singleton.2 rfl)
 unfold plus;rw [kEM h1,ins_last _ _ _ h2];exact List.filter_eq_self.2 (fun u hu=>by unfold nzB;exact bne_iff_ne.2 (hn u hu))
def termP (t:Coef):Int × Str:=(t.c,t.v)
theorem accs_terms {k:Int}:∀ (l2 l1:List Coef),Srt (l1++l2)→Nz (l1++l2)→(∀ t ∈ l2,kAZ t.v=true)→∀ r,accs ⟨k,l1⟩ (l2.map termP++r)=accs ⟨k,l1++l2⟩ r
 | [],l1,_,_,_,r=>by rw [List.append_nil];rfl
 | t :: l2,l1,hs,hn,hm,r=>by
   rw [List.map_cons,List.cons_append]
   show accs (kER ⟨k,l1⟩ t.c t.v) _=_
   rw [show l1++t :: l2=(l1++[t])++l2 by simp] at hs hn ⊢;rw [accum_name _ _ (kI0 (hm t (zM ..)))];rw [plus_last (List.Pairwise.sublist (List.sublist_append_left _ _) hs) (fun u hu=>hn u (List.mem_append_left _ hu))];exact accs_terms l2 (l1++[t]) hs hn (fun u hu=>hm u (zO _ hu)) r
def pcs (x:Lin):List (Int × Str):=x.terms.map termP++(if endB (sumS x.terms) x.const then [(x.const,⟨#[]⟩)] else [])
theorem kFP:(⟨#[]⟩:Str).toList.isEmpty=true:=by rw [ByteArray.toList_eq];rfl
theorem accs_pcs {x:Lin} (h:kAB x=true):accs ⟨0,[]⟩ (pcs x)=x:=by
 obtain ⟨hs,hn,_,hm,_,_⟩:=kAV h;unfold pcs;rw [accs_terms x.terms [] hs hn hm]
 split
 · show kER ⟨0,[]++x.terms⟩ x.const ⟨#[]⟩=x
   rw [kII _ _ kFP,List.nil_append,Int.zero_add]
 · rename_i he
   unfold endB at he;rw [Bool.or_eq_true,not_or] at he;have h0:x.const=0:=by have:=he.1;simpa using this
   show (⟨0,[]++x.terms⟩:Lin)=x
   rw [List.nil_append,← h0]
theorem pcs_ok {x:Lin} (h:kAB x=true):∀ p ∈ pcs x,PairOk p:=by
 obtain ⟨hs,hn,hb,hm,hc,_⟩:=kAV h;intro p hp;unfold pcs at hp;rcases List.mem_append.1 hp with q | q
 · obtain ⟨t,ht,rfl⟩:=List.mem_map.1 q
   have h1:=hb t ht;have h2:=hn t ht;exact ⟨by show t.c.natAbs<_;omega,fun _=>⟨hm t ht,by show 0<t.c.natAbs;omega⟩⟩
 · split at q
   · rw [List.mem_singleton] at q
     subst q;exact ⟨by show x.const.natAbs<_;omega,fun e=>by rw [kFP] at e;cases e⟩
   · cases q
theorem pcs_len {x:Lin} (h:kAB x=true):0<(pcs x).length∧(pcs x).length≤13:=by
 obtain ⟨_,_,_,_,_,hl⟩:=kAV h;unfold pcs;rw [zP,List.length_map];refine ⟨?_,by split <;> simp <;> omega⟩;cases ht:x.terms with
 | nil =>
   rw [if_pos (by unfold endB sumS;rw [List.foldl_nil,kFP,Bool.or_true])];simp
 | cons t l=>simp only [List.length_cons];omega
theorem part_body {o v:Str} {n:Int} (h:PairOk (n,v)):kDX o n v=(if n<0 then o++⟨#[45]⟩ else kIC o 1)++kBF n.natAbs v:=by
 have hp:PartOk n.natAbs v:=h;unfold kDX kBF;rw [← ByteArray.append_assoc,← ByteArray.append_assoc]
 congr 1
 by_cases h1:oneB n v=true
 · have h2:=h1
   unfold oneB at h2;rw [zA,Bool.or_eq_true,beq_iff_eq,beq_iff_eq,Bool.not_eq_true'] at h2;have hn:numS n.natAbs v=⟨#[]⟩:=by unfold numS;rw [if_pos ⟨h2.1,by rcases h2.2 with e | e <;> omega⟩]
   unfold digS;rw [if_pos h1,hn,kFC];rcases h2.2 with rfl | rfl
   · rw [cut_1,kFC,if_neg (by decide)]
   · rw [cut_m1,if_pos (by decide)]
     rfl
 · have h2:=h1
   have hn:numS n.natAbs v=kA4 (n.natAbs:Int):=by
    unfold numS;rw [if_neg];rintro ⟨q1,q2⟩;apply h2;unfold oneB;rw [q1];have:n=1∨n= -1:=by omega
    rcases this with rfl | rfl <;> decide
   unfold digS;rw [if_neg h1,hn];by_cases hneg:n<0
   · rw [if_pos hneg]
     have e:kA4 n=(⟨#[45]⟩:Str)++kA4 (n.natAbs:Int):=by
      rw [itoa_minus (by omega)]
      congr 1;omega
     rw [e];unfold kIC kHV;rw [decide_eq_false (by omega),Bool.false_and,if_neg (by decide),ByteArray.append_assoc]
   · rw [if_neg hneg]
     have e:((n.natAbs:Nat):Int)=n:=by omega
     rw [e]
     congr 1
     unfold kIC kHV;rw [decide_eq_true (by omega),decide_eq_true (by decide)]
theorem part_full {o v:Str} {n:Int} (h:PairOk (n,v)):(kDX o n v).toList.isEmpty=false:=by
 rw [part_body h];exact kGX (by rw [zS];have:=(kJE (n:=n.natAbs) (v:=v) h).1;omega)
theorem fold_tail:∀ (l:List (Int × Str)) (o:Str),(∀ p ∈ l,PairOk p)→o.toList.isEmpty=false→l.foldl (fun o p=>kDX o p.1 p.2) o=o++kBZ l
 | [],o,_,_=>(kFC o).symm
 | p :: l,o,hl,ho=>by
   have hp:=hl p (zM ..);rw [List.foldl_cons,fold_tail l _ (fun q hq=>hl q (zO _ hq)) (part_full hp),part_body hp]
   show _=o++(sgnS p.1++(kBF p.1.natAbs p.2++kBZ l))
   rw [plus_yes ho];unfold sgnS
   split <;> simp only [ByteArray.append_assoc]
def kCT (n:Int):Str:=if n<0 then ⟨#[45]⟩ else ⟨#[]⟩
theorem printL_fold {x:Lin} (h:kAB x=true):kAS x=(pcs x).foldl (fun o p=>kDX o p.1 p.2) ⟨#[]⟩:=by
 unfold kAS pcs;rw [if_pos h,List.foldl_append,List.foldl_map]
 show endS (sumS x.terms) x.const=_
 rw [show List.foldl (fun (o:Str) (t:Coef)=>kDX o (termP t).1 (termP t).2) ⟨#[]⟩ x.terms=sumS x.terms from rfl];unfold endS
 split <;> rfl
theorem printL_parts {x:Lin} (h:kAB x=true):∃ p l,pcs x=p :: l∧kAS x=kCT p.1++(kBF p.1.natAbs p.2++kBZ l):=by
 have hl:=(pcs_len h).1;have hk:=pcs_ok h;rw [printL_fold h];cases hp:pcs x with
 | nil=>rw [hp] at hl;simp at hl
 | cons p l =>
   rw [hp] at hk;refine ⟨p,l,rfl,?_⟩;have hp1:=hk p (zM ..);rw [List.foldl_cons,fold_tail l _ (fun q hq=>hk q (zO _ hq)) (part_full hp1),part_body hp1,plus_no kFP];unfold kCT
   split
   · rw [kGZ,ByteArray.append_assoc]
   · rw [kGZ,kGZ]
theorem parse_print {it:Str→Nat→Int × Str × Bool × Nat} (hit:ItemLaw it) {x:Lin} (h:kAB x=true):kB9 (it (kAS x)) (kAS x)=some x:=by
 obtain ⟨p,l,e1,e2⟩:=printL_parts h;have hk:=pcs_ok h;have ha:=accs_pcs h;have hlen:=(pcs_len h).2;rw [e1] at hk ha hlen;have hp:=hk p (zM ..);obtain ⟨b0,b1,b2,b3⟩:=kJE (n:=p.1.natAbs) (v:=p.2) hp
 have hlt:l.length<(kAS x).size+1:=by
  have hz:∀ (l:List (Int × Str)),l.length≤(kBZ l).size:=fun l=>by
   induction l with
   | nil=>exact zR _
   | cons q l ih=>unfold kBZ;rw [zS,zS,kHF,List.length_cons];omega
  rw [e2,zS,zS];have:=hz l;omega
 unfold kB9;rw [e2] at hlt ⊢;have hw:=loop_law hit l p (kCT p.1) ((kCT p.1++(kBF p.1.natAbs p.2++kBZ l)).size+1) ⟨0,[]⟩ hp (fun q hq=>hk q (zO _ hq)) hlt;rw [ha] at hw;by_cases hn:p.1<0
 · have hf:kCT p.1=⟨#[45]⟩:=if_pos hn
   have h0:bt (kCT p.1++(kBF p.1.natAbs p.2++kBZ l)) 0=45:=by rw [hf,kB8 (by decide)];decide
   have hbl:blk (kCT p.1++(kBF p.1.natAbs p.2++kBZ l)) 0=0:=kC6 (by rw [h0];decide)
   have his:isAt (kCT p.1++(kBF p.1.natAbs p.2++kBZ l)) 0 45=true:=by
    unfold isAt;rw [h0,decide_eq_true (by rw [zS,zS];omega)];rfl
   have hk1:startK (kCT p.1++(kBF p.1.natAbs p.2++kBZ l))=(kCT p.1).size:=by unfold startK;rw [hbl,if_pos his,hf];rfl
   have hs1:startS (kCT p.1++(kBF p.1.natAbs p.2++kBZ l))=sg p.1:=by unfold startS;rw [hbl,if_pos his];exact (if_pos hn).symm
   rw [hk1,hs1];exact hw
 · have hf:kCT p.1=⟨#[]⟩:=if_neg hn
   have h0:bt (kCT p.1++(kBF p.1.natAbs p.2++kBZ l)) 0=bt (kBF p.1.natAbs p.2) 0:=by rw [hf,kGZ,kB8 b0]
   have hbl:blk (kCT p.1++(kBF p.1.natAbs p.2++kBZ l)) 0=0:=kC6 (by rw [h0];exact b1);have his:isAt (kCT p.1++(kBF p.1.natAbs p.2++kBZ l)) 0 45=false:=by unfold isAt;rw [h0,b2,Bool.and_false]
   have his2:isAt (kCT p.1++(kBF p.1.natAbs p.2++kBZ l)) 0 43=false:=by unfold isAt;rw [h0,b3,Bool.and_false]
   have hk1:startK (kCT p.1++(kBF p.1.natAbs p.2++kBZ l))=(kCT p.1).size:=by unfold startK isTo;rw [hbl,if_neg (by rw [his];decide),if_neg (by rw [his2];decide),hf];rfl
   have hs1:startS (kCT p.1++(kBF p.1.natAbs p.2++kBZ l))=sg p.1:=by unfold startS;rw [hbl,if_neg (by rw [his];decide)];exact (if_neg hn).symm
   rw [hk1,hs1];exact hw
theorem read_back {it:Str→Nat→Int × Str × Bool × Nat} (hit:ItemLaw it) {x:Lin} (h:kAB x=true):lossE (kB9 (it (kAS x)) (kAS x))=0∧lossX (kB9 (it (kAS x)) (kAS x))=x:=by
 rw [parse_print hit h]
 show limE x=0∧limL x=x
 unfold limE limL;rw [if_pos h,if_pos h];exact ⟨rfl,rfl⟩
theorem kG3 (x sep:Str):kBB [x] sep=x:=by
 unfold kBB;rw [List.map_cons,List.map_nil,Lib.join_one]
theorem joinS_nil (sep:Str):kBB [] sep=⟨#[]⟩:=rfl
theorem joinS_full {l:List Str} (hl:∀ x ∈ l,x.toList.isEmpty=false) (sep:Str):(kBB l sep).toList.isEmpty=l.isEmpty:=by
 cases l with
 | nil=>rw [joinS_nil,ByteArray.toList_eq];rfl
 | cons y r =>
   have h1:=hl y (zM ..);unfold kBB;rw [List.map_cons,Lib.join_cons];rw [ByteArray.toList_eq] at h1 ⊢;cases hy:y.data.toList with
   | nil=>rw [hy] at h1;cases h1
   | cons c t=>simp
theorem size_full {s:Str} (h:s.toList.isEmpty=false):0<s.size:=by
 rcases Nat.eq_zero_or_pos s.size with q | q
 · rw [ByteArray.toList_eq,show s.data.toList=[] from zL (by rw [Array.length_toList];exact q)] at h;cases h
 · exact q
theorem printL_full {x:Lin} (h:kAB x=true):(kAS x).toList.isEmpty=false:=by
 unfold kAS;rw [if_pos h];obtain ⟨_,_,hb,hn,hc,hl⟩:=kAV h;unfold endS
 split
 · rename_i he
   have hz:0<(kA4 x.const).size:=by
    unfold kA4
    show 0<(Lib.itoa x.const).toArray.size
    rw [List.size_toArray];unfold Lib.itoa
    split
    · simp
    · rw [Lib.decDigits_length];exact Lib.nDigits_pos _
   refine kGX (Nat.lt_of_lt_of_le hz ?_);unfold kDX digS oneB;have e0:(⟨#[]⟩:Str).toList.isEmpty=true:=by rw [ByteArray.toList_eq];rfl
   rw [e0];simp only [Bool.not_true,Bool.false_and,Bool.false_eq_true,if_false];rw [zS,zS];omega
 · rename_i he
   unfold endB at he;rw [Bool.or_eq_true] at he;cases hq:(sumS x.terms).toList.isEmpty with
   | false=>rfl
   | true=>exact absurd (.inr hq) he
theorem rowL_full (x:Shp):∀ y ∈ rowL x,y.toList.isEmpty=false:=fun y hy=>by
 unfold rowL at hy
 split at hy
 · cases hy
 · rw [List.mem_singleton] at hy
   subst hy;exact kGX (by rw [zS];show 0<_+2;omega)
theorem kFY {x:Shp} (h:kAK x=true):x.dims.length≤6∧∀ y ∈ x.dims,kAB y=true:=by
 unfold kAK at h;rw [zA,zA] at h;refine ⟨of_decide_eq_true h.2.1,fun y hy=>?_⟩;have h2:=h.2.2;rw [Bool.not_eq_true',List.any_eq_false] at h2;have:=h2 y hy
 simpa using this
structure EnvM (w:World):Prop where
 env:Env w
 len:∃ m,w.cell? ⟨0,0,none⟩=some (.int .i64 m)
theorem EnvM.keep {w w':World} {B:Nat} (h:EnvM w) (hb:Below B w w') (h8:8≤B):EnvM w':=⟨h.env.keep hb h8,h.len.imp fun m hm=>by rw [hb.cell (by show 0<B;omega)];exact hm⟩
theorem EnvM.below {w w':World} (h:EnvM w) (hb:Below w.heap.size w w'):EnvM w':=h.keep hb h.env.big
def dotS:Str:=⟨#[46,46]⟩
def comS:Str:=⟨#[44,32]⟩
def cutP (s p:Str):Str:=⟨(Lib.trimPrefix s.data.toList p.data.toList).toArray⟩
def cutE (s p:Str):Str:=⟨(Lib.trimSuffix s.data.toList p.data.toList).toArray⟩
def hasP (s p:Str):Bool:=Lib.hasPrefix s.data.toList p.data.toList
def hasE (s p:Str):Bool:=Lib.hasSuffix s.data.toList p.data.toList
def kBS (s p:Str):List Str:=Lib.splitB p 0 (Lib.countB s p) s
def stepH (e:Bool) (k:Nat) (x:Str) (acc:Shp):Option Shp :=
 if hasE x dotS && decide (k=0) then some ⟨cutE x dotS,acc.dims⟩
 else if e then some acc
 else if lossE (kB9 (kBU x) x)=0 then some ⟨acc.row,acc.dims++[lossX (kB9 (kBU x) x)]⟩ else none
def runH (e:Bool):List Str→Nat→Shp→Option Shp
 | [],_,acc=>some acc
 | x :: l,k,acc=>match stepH e k x acc with
   | none=>none
   | some acc'=>runH e l (k+1) acc'
def kBY (s:Str):Str:=cutE (cutP s ⟨#[91]⟩) ⟨#[93]⟩
def kIX (s:Str):Option Shp :=
 if hasP s ⟨#[91]⟩ && hasE (cutP s ⟨#[91]⟩) ⟨#[93]⟩ then
  match runH (kBY s).toList.isEmpty (kBS (kBY s) comS) 0 ⟨⟨#[]⟩,[]⟩ with
  | none=>none
  | some x=>if kAK x && (kB6 x).toList==s.toList then some x else none
 else none
def optH (o:Option Shp):Shp:=match o with
 | none=>⟨⟨#[]⟩,[]⟩
 | some x=>x
def optE {α :Type} (o:Option α):Int:=match o with
 | none=>6
 | some _=>0
theorem getD_at {α :Type} [Inhabited α] {l:List α} {k:Nat} (h:k<l.length):l[k]? =some (l.getD k default):=by rw [zD,zG h];rfl
theorem drop_at {α :Type} [Inhabited α] {l:List α} {k:Nat} (h:k<l.length):l.drop k=l.getD k default :: l.drop (k+1):=by
 have e:=getD_at h;rw [zG h] at e;rw [List.drop_eq_getElem_cons h,Option.some.inj e]
theorem runH_cons (e:Bool) (x:Str) (l:List Str) (k:Nat) (acc:Shp):runH e (x :: l) k acc=match stepH e k x acc with | none=>none | some acc'=>runH e l (k+1) acc':=rfl
theorem cutE_size (s p:Str):(cutE s p).size≤s.size:=by
 unfold cutE Lib.trimSuffix
 show (if _ then _ else _:List UInt8).toArray.size≤_
 rw [List.size_toArray]
 split
 · rw [zN,Array.length_toList];exact Nat.min_le_right _ _
 · rw [Array.length_toList];exact zR _
theorem lossX_sz (o:Option Lin) (h:lossE o=0):kAB (lossX o)=true:=by
 cases o with
 | none=>cases h
 | some x =>
   change limE x=0 at h
   show kAB (limL x)=true
   unfold limE at h;unfold limL
   split at h
   · rename_i hv;rw [if_pos hv];exact hv
   · cases h
theorem valid_szL {x:Lin} (h:kAB x=true):szL x:=fun t ht=>zE (kC7 ((kAV h).2.2.2.1 t ht)) (by decide)
theorem shape_Parse (s:Str) (hs:s.size≤1000000) (hp:∀ x ∈ kBS (kBY s) comS,x.size≤900) (w:World) (E:EnvM w) :
 Calls Tryz.prog 100 #[.string s] w fun e w'=>(∃ ds,e= .returned (.tuple #[.agg ds.toArray,.int .i64 (optE (kIX s))])∧RShp.rd (fun k=>w.heap.size≤k) w' ds (optH (kIX s)))∧Below w.heap.size w w':=by
 have HE:=hJ E;have h8:8≤w.heap.size:=E.env.big;have HP:=hJ hp;have HR:Hid (kIX s=if hasP s ⟨#[91]⟩ && hasE (cutP s ⟨#[91]⟩) ⟨#[93]⟩ then (match runH (kBY s).toList.isEmpty (kBS (kBY s) comS) 0 ⟨⟨#[]⟩,[]⟩ with | none=>none | some x=>if kAK x && (kB6 x).toList==s.toList then some x else none) else none):=hJ rfl;have HC1:=fun W=>Tryz.strings_CutPrefix s ⟨#[91]⟩ W
 change ∀ W,Calls _ _ _ W fun e w'=>e= .returned (.tuple #[.string (cutP s ⟨#[91]⟩),.bool (hasP s ⟨#[91]⟩)])∧_ at HC1
 have hcz:(cutP s ⟨#[91]⟩).size≤1000000:=by
  unfold cutP Lib.trimPrefix
  show (if _ then _ else _:List UInt8).toArray.size≤_
  rw [List.size_toArray]
  split
  · rw [List.length_drop,Array.length_toList];show s.size - _≤_;omega
  · rw [Array.length_toList];exact hs
 have HC2:=fun W=>Tryz.strings_CutSuffix (cutP s ⟨#[91]⟩) ⟨#[93]⟩ W (zE hcz (by decide))
 change ∀ W,Calls _ _ _ W fun e w'=>e= .returned (.tuple #[.string (kBY s),.bool (hasE (cutP s ⟨#[91]⟩) ⟨#[93]⟩)])∧_ at HC2
 have hiz:(kBY s).size≤1000000:=by
  refine zE ?_ hcz;unfold kBY cutE Lib.trimSuffix
  show (if _ then _ else _:List UInt8).toArray.size≤_
  rw [List.size_toArray]
  split
  · rw [zN,Array.length_toList];exact Nat.min_le_right _ _
  · rw [Array.length_toList];exact zR _
 have HC1:=hJ HC1;have HC2:=hJ HC2;have hlen:(kBS (kBY s) comS).length=Lib.countB (kBY s) comS+1:=Lib.splitB_all comS (by decide) 0 _ _ rfl;have hcl:=Lib.countB_le comS (by decide) (kBY s).size (kBY s) (zR _);have HSp:=hJ (fun (W:World) (hW:EnvM W)=>let ⟨m,hm⟩:=hW.len;Tryz.strings_Split (kBY s) comS m W (Nat.lt_of_le_of_lt hiz (by decide)) hm (by decide));have HSp:Hid (∀ W:World,EnvM W→Calls Tryz.prog 45 #[.string (kBY s),.string comS] W fun e w'=>e= .returned (.slice (some ⟨W.heap.size,0,none⟩) (kBS (kBY s) comS).length (kBS (kBY s) comS).length)∧w'=W.alloc (.cells ((kBS (kBY s) comS).map Value.string).toArray 9)):=hJ (by rw [hlen];exact HSp.out);have hln:(kBS (kBY s) comS).length≤1000001:=by omega
 clear E hp hlen hcl;generalize kBS (kBY s) comS=L at *;generalize kIX s=res at *;generalize kBY s=inn at *;generalize hasE (cutP s ⟨#[91]⟩) ⟨#[93]⟩=ok2 at *;generalize cutP s ⟨#[91]⟩=s1 at *;generalize hasP s ⟨#[91]⟩=ok1 at *;go_enter func100,ntmps100
 go_wp2_with fail
 have HRb:=hJ (Bx.fresh w 25 [.string ⟨#[]⟩,.slice none 0 0]);refine (HC1.out _).mono ?_;rintro e W0 ⟨rfl,rfl⟩
 go_wp2_with fail
 refine (HC2.out _).mono ?_;rintro e W0 ⟨rfl,rfl⟩;by_cases hok:(ok1 && ok2)=true
 · obtain ⟨rfl,rfl⟩:ok1=true∧ok2=true:=by simpa using hok
   have HE1:=hJ (HE.out.below (((zB _ _).alloc (zR _) (.cells #[.string ⟨#[]⟩,.slice none 0 0] 25)).alloc (by simp) (.cells #[.string ⟨#[]⟩,.slice none 0 0] 25)));have HR2:Hid (res=match runH inn.toList.isEmpty L 0 ⟨⟨#[]⟩,[]⟩ with | none=>none | some x=>if kAK x && (kB6 x).toList==s.toList then some x else none):=hJ HR.out;clear HR hok
   go_wp2_with fail
   refine (HSp.out _ HE1.out).mono ?_;rintro e W0 ⟨rfl,rfl⟩;have HRs:=hJ ((HRb.out.alloc (.cells #[.string ⟨#[]⟩,.slice none 0 0] 25)).alloc (.cells (L.map Value.string).toArray 9));have HOs:=hJ ((Bx.fresh (w.alloc (.cells #[.string ⟨#[]⟩,.slice none 0 0] 25)) 25 [.string ⟨#[]⟩,.slice none 0 0]).alloc (.cells (L.map Value.string).toArray 9));have HPs:=hJ (Bx.fresh ((w.alloc (.cells #[.string ⟨#[]⟩,.slice none 0 0] 25)).alloc (.cells #[.string ⟨#[]⟩,.slice none 0 0] 25)) 9 (L.map Value.string));have e1:(w.alloc (.cells #[.string ⟨#[]⟩,.slice none 0 0] 25)).heap.size=w.heap.size+1:=by simp
   have e2:((w.alloc (.cells #[.string ⟨#[]⟩,.slice none 0 0] 25)).alloc (.cells #[.string ⟨#[]⟩,.slice none 0 0] 25)).heap.size=w.heap.size+1+1:=by simp
   have HBl:=hJ ((((zB _ w).alloc (zR _) (.cells #[.string ⟨#[]⟩,.slice none 0 0] 25)).alloc (by simp) (.cells #[.string ⟨#[]⟩,.slice none 0 0] 25)).alloc (by rw [e2];omega) (.cells (L.map Value.string).toArray 9));rw [e1] at HOs;rw [e2] at HPs;have hsz:(((w.alloc (.cells #[.string ⟨#[]⟩,.slice none 0 0] 25)).alloc (.cells #[.string ⟨#[]⟩,.slice none 0 0] 25)).alloc (.cells (L.map Value.string).toArray 9)).heap.size=w.heap.size+1+1+1:=by simp
   clear HE1 HRb HSp HC1 HC2
   go_wp2_with fail
   try rw [e2]
   clear e1 e2;generalize ((w.alloc (.cells #[.string ⟨#[]⟩,.slice none 0 0] 25)).alloc (.cells #[.string ⟨#[]⟩,.slice none 0 0] 25)).alloc (.cells (L.map Value.string).toArray 9)=W at *;have HEw:=hJ HE.out.env;have HTot:Hid (runH inn.toList.isEmpty L 0 ⟨⟨#[]⟩,[]⟩=runH inn.toList.isEmpty L 0 ⟨⟨#[]⟩,[]⟩):=hJ rfl;have HTot2:∃ tot,tot=runH inn.toList.isEmpty L 0 ⟨⟨#[]⟩,[]⟩:=⟨_,rfl⟩
   obtain ⟨tot,hto⟩:=HTot2;rw [← hto] at HR2;have HTo:=hJ hto.symm;clear hto HTot HSp HC1 HC2
   go_loopw [34] (fun i wr=>∃ (k:Nat) (acc:Shp),k≤L.length∧i= .int .i64 k∧acc.dims.length≤k∧acc.row.size≤900∧Hid (∀ d ∈ acc.dims,kAB d=true)∧Hid (runH inn.toList.isEmpty (L.drop k) k acc=tot)∧Hid (∃ v,Bx wr (w.heap.size+1) 25 [.string acc.row,v]∧Own RLin 40 (fun q=>w.heap.size+1+1<q) wr (w.heap.size+3) v acc.dims)∧Hid (Bx wr w.heap.size 25 [.string ⟨#[]⟩,.slice none 0 0])∧Hid (Bx wr (w.heap.size+1+1) 9 (L.map Value.string))∧Hid (Below w.heap.size w wr)) (fun i _=>L.length - (intOf i).toNat)
   case atStart=>exact ⟨0,⟨⟨#[]⟩,[]⟩,Nat.zero_le _,rfl,zR _,by decide,hJ (fun d hd=>by cases hd),HTo,hJ ⟨_,HOs.out,Own.nil _ _ _ _ _⟩,HRs,HPs,HBl⟩
   case round =>
    clear HRs HOs HPs HBl;obtain ⟨k,acc,hk,rfl,hdl,hrz,HV,HRun,HO,HRs,HPs,HBl⟩:=hrel;have hws:w.heap.size+1+1<wr.heap.size:=HPs.out.lt;by_cases hlt:k<L.length
    · obtain ⟨v,hbx,hown⟩:=HO.out
      have HBX:=hJ hbx;have HOwn:=hJ hown;obtain ⟨va,vm,vc,rfl⟩:=hown.shape;clear HO hbx hown;have HDr:Hid (L.drop k=L.getD k default :: L.drop (k+1)):=hJ (drop_at hlt);have hxz:=HP.out _ (kAM hlt);have y0:wr.cell? ⟨w.heap.size+1+1,k,none⟩=some (.string (L.getD k default)):=HPs.out.cell k _ (by rw [List.getElem?_map,getD_at hlt];rfl);have HRun:Hid ((match stepH inn.toList.isEmpty k (L.getD k default) acc with | none=>none | some acc'=>runH inn.toList.isEmpty (L.drop (k+1)) (k+1) acc')=tot):=hJ (by rw [← HRun.out,HDr.out,runH_cons]);clear HDr;generalize L.getD k default=x at *;have HC:=fun W=>Tryz.strings_CutSuffix x ⟨#[46,46]⟩ W (by omega)
      change ∀ W,Calls _ _ _ W fun e w'=>e= .returned (.tuple #[.string (cutE x dotS),.bool (hasE x dotS)])∧_ at HC
      have HC:=hJ HC
      go_wp2_with fail
      refine (HC.out _).mono ?_;rintro e W1 ⟨rfl,hW⟩;subst hW;by_cases hc:(hasE x dotS && decide (k=0))=true
      · obtain ⟨hb,hk0⟩:hasE x dotS=true∧k=0:=by simpa using hc
        subst hk0;rw [hb];have HStep:Hid (stepH inn.toList.isEmpty 0 x acc=some ⟨cutE x dotS,acc.dims⟩):=hJ (by unfold stepH;rw [if_pos (by rw [hb];rfl)]);have z0:=HBX.out.cell 0 _ rfl;have f0:=HBX.out.fz 0;have hcz2:=cutE_size x dotS
        go_wp2_with fail
        go_roundw
        case rel=>exact ⟨0+1,⟨cutE x dotS,acc.dims⟩,by omega,by go_num,by show acc.dims.length≤_;omega,by show (cutE x dotS).size≤_;omega,HV,hJ (by have q:=HRun.out;rw [HStep.out] at q;exact q),hJ ⟨_,HBX.out.set 0 _,HOwn.out.set _ (fun q hq=>by show q≠w.heap.size+1;omega) (by show w.heap.size+1<_;omega)⟩,hJ (HRs.out.other (by show w.heap.size+1≠_;omega)),hJ (HPs.out.other (by show w.heap.size+1≠_;omega)),hJ (HBl.out.setCell (by show _≤w.heap.size+1;omega) _)⟩
        case measure=>simp [intOf];omega
      · have hnc:hasE x dotS=false∨¬ ((k:Int)=0):=by
         cases hb:hasE x dotS with
         | false=>exact .inl rfl
         | true=>exact .inr (fun e=>hc (by rw [hb];simp;omega))
        have HStep:Hid (stepH inn.toList.isEmpty k x acc=if inn.toList.isEmpty then some acc else if lossE (kB9 (kBU x) x)=0 then some ⟨acc.row,acc.dims++[lossX (kB9 (kBU x) x)]⟩ else none):=hJ (by unfold stepH;rw [if_neg hc]);have HC2:=hJ (linear_Parse x hxz W1 (HEw.out.keep HBl.out h8));have HVl:=hJ (lossX_sz (kB9 (kBU x) x));generalize lossE (kB9 (kBU x) x)=er at *;generalize lossX (kB9 (kBU x) x)=y at *;clear hc;rcases hnc with hb | hk0
        · rw [hb]
          go_wp2_with fail
          refine HC2.out.mono ?_;rintro e w4 ⟨⟨ds,rfl,ty,rfl,ay,cy,rfl,hy⟩,hb4⟩;have HT:=hJ (Bx.fresh w4 40 [.int .i64 y.const,.slice ay y.terms.length cy]);have t0:=HT.out.cell 0 _ rfl;have t1:=HT.out.cell 1 _ rfl;have hz4:=hb4.size;have HY:Hid (Sl kA7 (fun k=>W1.heap.size≤k) (w4.alloc (.cells #[.int .i64 y.const,.slice ay y.terms.length cy] 40)) ay y.terms.length cy y.terms):=hJ (hy.below ((zB _ _).alloc (zR _) _));have HB5:Hid (Below W1.heap.size W1 (w4.alloc (.cells #[.int .i64 y.const,.slice ay y.terms.length cy] 40))):=hJ (hb4.alloc hz4 _);have HOld:=HOwn;replace HBX:=hJ (HBX.out.below HB5.out HBX.out.lt);replace HOwn:=hJ (HOwn.out.below HB5.out);replace HPs:=hJ (HPs.out.below HB5.out HPs.out.lt);replace HRs:=hJ (HRs.out.below HB5.out HRs.out.lt);replace HBl:=hJ (HBl.out.trans (HB5.out.mono HBl.out.size));have v0:=HBX.out.cell 0 _ rfl;have v1:=HBX.out.cell 1 _ rfl;have fv1:=HBX.out.fz 1;clear hb4 hy HC2 HC y0;cases hi:inn.toList.isEmpty with
          | true =>
            rw [hi] at HStep HRun;have HNx:Hid (runH true (L.drop (k+1)) (k+1) acc=tot):=hJ (by have q:=HRun.out;rw [HStep.out] at q;exact q);clear HStep HRun;by_cases her:er=0
            · subst her
              go_wp2_with fail
              go_roundw
              case rel=>exact ⟨k+1,acc,by omega,by go_num,by omega,hrz,HV,by rw [hi];exact HNx,hJ ⟨_,HBX.out,HOwn.out⟩,HRs,HPs,HBl⟩
              case measure=>simp [intOf];omega
            · go_wp2_with fail
              go_roundw
              case rel=>exact ⟨k+1,acc,by omega,by go_num,by omega,hrz,HV,by rw [hi];exact HNx,hJ ⟨_,HBX.out,HOwn.out⟩,HRs,HPs,HBl⟩
              case measure=>simp [intOf];omega
          | false =>
            rw [hi] at HStep HRun;by_cases her:er=0
            · subst her
              have HNx:Hid (runH false (L.drop (k+1)) (k+1) ⟨acc.row,acc.dims++[y]⟩=tot):=hJ (by have q:=HRun.out;rw [HStep.out] at q;exact q);have hvy:Hid (kAB y=true):=hJ (HVl.out rfl);clear HStep HRun HVl
              go_wp2_with (at_builtin;refine kA1 kA2 rfl _ _ rfl (w.heap.size+3) _ _ rfl (HOwn.out.alloc _) _ y [.int .i64 y.const,.slice ay y.terms.length cy] rfl ⟨_,rfl,ay,cy,rfl,(HY.out.below ((zB _ _).alloc (zR _) _)).mono (fun q hq _=>⟨by omega,fun e=>by have:=(HOld.out.block e).2;omega⟩)⟩ (kA3 40 (by (simp only [kAJ,kAF,Array.getElem?_push,Array.size_push];simp))) (by omega) (by unfold maxLen;omega) (by simp;omega) ?_;intro v9 w9 hown9 hb9 hk9;obtain ⟨a9,m9,c9,rfl⟩:=hown9.shape;have HX9:=hJ ((HBX.out.alloc _).kp hk9 (HOwn.out.ne (by omega)));have HP9:=hJ ((HPs.out.alloc _).kp hk9 (HOwn.out.ne (by omega)));have HR9:=hJ ((HRs.out.alloc _).kp hk9 (HOwn.out.ne (by omega)));have z9:=HX9.out.cell 1 _ rfl;have f9:=HX9.out.fz 1)
              go_roundw
              case rel=>exact ⟨k+1,⟨acc.row,acc.dims++[y]⟩,by omega,by go_num,by rw [zP];show acc.dims.length+1≤_;omega,hrz,hJ (fun d hd=>(List.mem_append.mp hd).elim (HV.out d) (fun q=>by rw [List.mem_singleton.mp q];exact hvy.out)),by rw [hi];exact HNx,hJ ⟨_,HX9.out.set 1 _,hown9.set _ (fun q hq=>by show q≠w.heap.size+1;omega) (by show w.heap.size+1<_;omega)⟩,hJ (HR9.out.other (by show w.heap.size+1≠_;omega)),hJ (HP9.out.other (by show w.heap.size+1≠_;omega)),hJ (((HBl.out.alloc HBl.out.size _).trans (hb9.mono (by omega))).setCell (by show _≤w.heap.size+1;omega) _)⟩
              case measure=>simp [intOf];omega
            · have HF:Hid (res=none):=hJ (by have q:=HRun.out;rw [HStep.out,if_neg (by decide),if_neg her] at q;rw [HR2.out,← q])
              clear HStep HRun;have z0:=HRs.out.cell 0 _ rfl;have z1:=HRs.out.cell 1 _ rfl;have f0:=HRs.out.fz 0;have f1:=HRs.out.fz 1;have hl0:=HRs.out.lt;have HZz:=hJ ((HRs.out.set 0 (.string ⟨#[]⟩)).set 1 (.slice none 0 0));have s0:=HZz.out.cell 0 _ rfl;have s1:=HZz.out.cell 1 _ rfl
              go_wp2_with fail
              refine bodyPost_ret (v:=.tuple #[.agg #[.string ⟨#[]⟩,.slice none 0 0],.int .i64 6]) (by simp [results,results100,go_sem,s0,s1,hl0]) rfl ?_;have HFr:Hid (∀ W,RShp.rd (fun k=>w.heap.size≤k) W [.string ⟨#[]⟩,.slice none 0 0] (optH res)):=hJ (fun W=>by rw [HF.out];exact ⟨_,rfl,none,0,rfl,Sl.empty RLin _ _⟩)
              first
               | exact ⟨⟨_,by rw [HF.out];rfl,HFr.out _⟩,HBl.out⟩
               | exact ⟨⟨_,by rw [HF.out];rfl,HFr.out _⟩,(HBl.out.setCell (zR _) _).setCell (zR _) _⟩
        · cases hasE x dotS with
          | false =>
            go_wp2_with fail
            refine HC2.out.mono ?_;rintro e w4 ⟨⟨ds,rfl,ty,rfl,ay,cy,rfl,hy⟩,hb4⟩;have HT:=hJ (Bx.fresh w4 40 [.int .i64 y.const,.slice ay y.terms.length cy]);have t0:=HT.out.cell 0 _ rfl;have t1:=HT.out.cell 1 _ rfl;have hz4:=hb4.size;have HY:Hid (Sl kA7 (fun k=>W1.heap.size≤k) (w4.alloc (.cells #[.int .i64 y.const,.slice ay y.terms.length cy] 40)) ay y.terms.length cy y.terms):=hJ (hy.below ((zB _ _).alloc (zR _) _));have HB5:Hid (Below W1.heap.size W1 (w4.alloc (.cells #[.int .i64 y.const,.slice ay y.terms.length cy] 40))):=hJ (hb4.alloc hz4 _);have HOld:=HOwn;replace HBX:=hJ (HBX.out.below HB5.out HBX.out.lt);replace HOwn:=hJ (HOwn.out.below HB5.out);replace HPs:=hJ (HPs.out.below HB5.out HPs.out.lt);replace HRs:=hJ (HRs.out.below HB5.out HRs.out.lt);replace HBl:=hJ (HBl.out.trans (HB5.out.mono HBl.out.size));have v0:=HBX.out.cell 0 _ rfl;have v1:=HBX.out.cell 1 _ rfl;have fv1:=HBX.out.fz 1;clear hb4 hy HC2 HC y0;cases hi:inn.toList.isEmpty with
            | true =>
              rw [hi] at HStep HRun;have HNx:Hid (runH true (L.drop (k+1)) (k+1) acc=tot):=hJ (by have q:=HRun.out;rw [HStep.out] at q;exact q);clear HStep HRun;by_cases her:er=0
              · subst her
                go_wp2_with fail
                go_roundw
                case rel=>exact ⟨k+1,acc,by omega,by go_num,by omega,hrz,HV,by rw [hi];exact HNx,hJ ⟨_,HBX.out,HOwn.out⟩,HRs,HPs,HBl⟩
                case measure=>simp [intOf];omega
              · go_wp2_with fail
                go_roundw
                case rel=>exact ⟨k+1,acc,by omega,by go_num,by omega,hrz,HV,by rw [hi];exact HNx,hJ ⟨_,HBX.out,HOwn.out⟩,HRs,HPs,HBl⟩
                case measure=>simp [intOf];omega
            | false =>
              rw [hi] at HStep HRun;by_cases her:er=0
              · subst her
                have HNx:Hid (runH false (L.drop (k+1)) (k+1) ⟨acc.row,acc.dims++[y]⟩=tot):=hJ (by have q:=HRun.out;rw [HStep.out] at q;exact q);have hvy:Hid (kAB y=true):=hJ (HVl.out rfl);clear HStep HRun HVl
                go_wp2_with (at_builtin;refine kA1 kA2 rfl _ _ rfl (w.heap.size+3) _ _ rfl (HOwn.out.alloc _) _ y [.int .i64 y.const,.slice ay y.terms.length cy] rfl ⟨_,rfl,ay,cy,rfl,(HY.out.below ((zB _ _).alloc (zR _) _)).mono (fun q hq _=>⟨by omega,fun e=>by have:=(HOld.out.block e).2;omega⟩)⟩ (kA3 40 (by (simp only [kAJ,kAF,Array.getElem?_push,Array.size_push];simp))) (by omega) (by unfold maxLen;omega) (by simp;omega) ?_;intro v9 w9 hown9 hb9 hk9;obtain ⟨a9,m9,c9,rfl⟩:=hown9.shape;have HX9:=hJ ((HBX.out.alloc _).kp hk9 (HOwn.out.ne (by omega)));have HP9:=hJ ((HPs.out.alloc _).kp hk9 (HOwn.out.ne (by omega)));have HR9:=hJ ((HRs.out.alloc _).kp hk9 (HOwn.out.ne (by omega)));have z9:=HX9.out.cell 1 _ rfl;have f9:=HX9.out.fz 1)
                go_roundw
                case rel=>exact ⟨k+1,⟨acc.row,acc.dims++[y]⟩,by omega,by go_num,by rw [zP];show acc.dims.length+1≤_;omega,hrz,hJ (fun d hd=>(List.mem_append.mp hd).elim (HV.out d) (fun q=>by rw [List.mem_singleton.mp q];exact hvy.out)),by rw [hi];exact HNx,hJ ⟨_,HX9.out.set 1 _,hown9.set _ (fun q hq=>by show q≠w.heap.size+1;omega) (by show w.heap.size+1<_;omega)⟩,hJ (HR9.out.other (by show w.heap.size+1≠_;omega)),hJ (HP9.out.other (by show w.heap.size+1≠_;omega)),hJ (((HBl.out.alloc HBl.out.size _).trans (hb9.mono (by omega))).setCell (by show _≤w.heap.size+1;omega) _)⟩
                case measure=>simp [intOf];omega
              · have HF:Hid (res=none):=hJ (by have q:=HRun.out;rw [HStep.out,if_neg (by decide),if_neg her] at q;rw [HR2.out,← q])
                clear HStep HRun;have z0:=HRs.out.cell 0 _ rfl;have z1:=HRs.out.cell 1 _ rfl;have f0:=HRs.out.fz 0;have f1:=HRs.out.fz 1;have hl0:=HRs.out.lt;have HZz:=hJ ((HRs.out.set 0 (.string ⟨#[]⟩)).set 1 (.slice none 0 0));have s0:=HZz.out.cell 0 _ rfl;have s1:=HZz.out.cell 1 _ rfl
                go_wp2_with fail
                refine bodyPost_ret (v:=.tuple #[.agg #[.string ⟨#[]⟩,.slice none 0 0],.int .i64 6]) (by simp [results,results100,go_sem,s0,s1,hl0]) rfl ?_;have HFr:Hid (∀ W,RShp.rd (fun k=>w.heap.size≤k) W [.string ⟨#[]⟩,.slice none 0 0] (optH res)):=hJ (fun W=>by rw [HF.out];exact ⟨_,rfl,none,0,rfl,Sl.empty RLin _ _⟩)
                first
                 | exact ⟨⟨_,by rw [HF.out];rfl,HFr.out _⟩,HBl.out⟩
                 | exact ⟨⟨_,by rw [HF.out];rfl,HFr.out _⟩,(HBl.out.setCell (zR _) _).setCell (zR _) _⟩
          | true =>
            go_wp2_with fail
            refine HC2.out.mono ?_;rintro e w4 ⟨⟨ds,rfl,ty,rfl,ay,cy,rfl,hy⟩,hb4⟩;have HT:=hJ (Bx.fresh w4 40 [.int .i64 y.const,.slice ay y.terms.length cy]);have t0:=HT.out.cell 0 _ rfl;have t1:=HT.out.cell 1 _ rfl;have hz4:=hb4.size;have HY:Hid (Sl kA7 (fun k=>W1.heap.size≤k) (w4.alloc (.cells #[.int .i64 y.const,.slice ay y.terms.length cy] 40)) ay y.terms.length cy y.terms):=hJ (hy.below ((zB _ _).alloc (zR _) _));have HB5:Hid (Below W1.heap.size W1 (w4.alloc (.cells #[.int .i64 y.const,.slice ay y.terms.length cy] 40))):=hJ (hb4.alloc hz4 _);have HOld:=HOwn;replace HBX:=hJ (HBX.out.below HB5.out HBX.out.lt);replace HOwn:=hJ (HOwn.out.below HB5.out);replace HPs:=hJ (HPs.out.below HB5.out HPs.out.lt);replace HRs:=hJ (HRs.out.below HB5.out HRs.out.lt);replace HBl:=hJ (HBl.out.trans (HB5.out.mono HBl.out.size));have v0:=HBX.out.cell 0 _ rfl;have v1:=HBX.out.cell 1 _ rfl;have fv1:=HBX.out.fz 1;clear hb4 hy HC2 HC y0;cases hi:inn.toList.isEmpty with
            | true =>
              rw [hi] at HStep HRun;have HNx:Hid (runH true (L.drop (k+1)) (k+1) acc=tot):=hJ (by have q:=HRun.out;rw [HStep.out] at q;exact q);clear HStep HRun;by_cases her:er=0
              · subst her
                go_wp2_with fail
                go_roundw
                case rel=>exact ⟨k+1,acc,by omega,by go_num,by omega,hrz,HV,by rw [hi];exact HNx,hJ ⟨_,HBX.out,HOwn.out⟩,HRs,HPs,HBl⟩
                case measure=>simp [intOf];omega
              · go_wp2_with fail
                go_roundw
                case rel=>exact ⟨k+1,acc,by omega,by go_num,by omega,hrz,HV,by rw [hi];exact HNx,hJ ⟨_,HBX.out,HOwn.out⟩,HRs,HPs,HBl⟩
                case measure=>simp [intOf];omega
            | false =>
              rw [hi] at HStep HRun;by_cases her:er=0
              · subst her
                have HNx:Hid (runH false (L.drop (k+1)) (k+1) ⟨acc.row,acc.dims++[y]⟩=tot):=hJ (by have q:=HRun.out;rw [HStep.out] at q;exact q);have hvy:Hid (kAB y=true):=hJ (HVl.out rfl);clear HStep HRun HVl
                go_wp2_with (at_builtin;refine kA1 kA2 rfl _ _ rfl (w.heap.size+3) _ _ rfl (HOwn.out.alloc _) _ y [.int .i64 y.const,.slice ay y.terms.length cy] rfl ⟨_,rfl,ay,cy,rfl,(HY.out.below ((zB _ _).alloc (zR _) _)).mono (fun q hq _=>⟨by omega,fun e=>by have:=(HOld.out.block e).2;omega⟩)⟩ (kA3 40 (by (simp only [kAJ,kAF,Array.getElem?_push,Array.size_push];simp))) (by omega) (by unfold maxLen;omega) (by simp;omega) ?_;intro v9 w9 hown9 hb9 hk9;obtain ⟨a9,m9,c9,rfl⟩:=hown9.shape;have HX9:=hJ ((HBX.out.alloc _).kp hk9 (HOwn.out.ne (by omega)));have HP9:=hJ ((HPs.out.alloc _).kp hk9 (HOwn.out.ne (by omega)));have HR9:=hJ ((HRs.out.alloc _).kp hk9 (HOwn.out.ne (by omega)));have z9:=HX9.out.cell 1 _ rfl;have f9:=HX9.out.fz 1)
                go_roundw
                case rel=>exact ⟨k+1,⟨acc.row,acc.dims++[y]⟩,by omega,by go_num,by rw [zP];show acc.dims.length+1≤_;omega,hrz,hJ (fun d hd=>(List.mem_append.mp hd).elim (HV.out d) (fun q=>by rw [List.mem_singleton.mp q];exact hvy.out)),by rw [hi];exact HNx,hJ ⟨_,HX9.out.set 1 _,hown9.set _ (fun q hq=>by show q≠w.heap.size+1;omega) (by show w.heap.size+1<_;omega)⟩,hJ (HR9.out.other (by show w.heap.size+1≠_;omega)),hJ (HP9.out.other (by show w.heap.size+1≠_;omega)),hJ (((HBl.out.alloc HBl.out.size _).trans (hb9.mono (by omega))).setCell (by show _≤w.heap.size+1;omega) _)⟩
                case measure=>simp [intOf];omega
              · have HF:Hid (res=none):=hJ (by have q:=HRun.out;rw [HStep.out,if_neg (by decide),if_neg her] at q;rw [HR2.out,← q])
                clear HStep HRun;have z0:=HRs.out.cell 0 _ rfl;have z1:=HRs.out.cell 1 _ rfl;have f0:=HRs.out.fz 0;have f1:=HRs.out.fz 1;have hl0:=HRs.out.lt;have HZz:=hJ ((HRs.out.set 0 (.string ⟨#[]⟩)).set 1 (.slice none 0 0));have s0:=HZz.out.cell 0 _ rfl;have s1:=HZz.out.cell 1 _ rfl
                go_wp2_with fail
                refine bodyPost_ret (v:=.tuple #[.agg #[.string ⟨#[]⟩,.slice none 0 0],.int .i64 6]) (by simp [results,results100,go_sem,s0,s1,hl0]) rfl ?_;have HFr:Hid (∀ W,RShp.rd (fun k=>w.heap.size≤k) W [.string ⟨#[]⟩,.slice none 0 0] (optH res)):=hJ (fun W=>by rw [HF.out];exact ⟨_,rfl,none,0,rfl,Sl.empty RLin _ _⟩)
                first
                 | exact ⟨⟨_,by rw [HF.out];rfl,HFr.out _⟩,HBl.out⟩
                 | exact ⟨⟨_,by rw [HF.out];rfl,HFr.out _⟩,(HBl.out.setCell (zR _) _).setCell (zR _) _⟩
    · have hke:k=L.length:=by omega
      have HTot:Hid (tot=some acc):=hJ (by rw [← HRun.out,List.drop_of_length_le (by omega)];rfl);have HR3:Hid (res=if kAK acc && (kB6 acc).toList==s.toList then some acc else none):=hJ (by rw [HR2.out,HTot.out]);obtain ⟨v,hbx,hown⟩:=HO.out;have HBX:=hJ hbx;obtain ⟨va,vc,rfl,hsl⟩:=hown.sl;have hz:szH acc:=⟨by omega,fun d hd=>valid_szL (HV.out d hd)⟩
      have HRd:Hid (RShp.rd (fun q=>w.heap.size+1<q) wr [.string acc.row,.slice va acc.dims.length vc] acc):=hJ ⟨_,rfl,va,vc,rfl,hsl.mono (fun q hq _=>by rcases hq with q | q <;> omega)⟩;have HEr:=hJ (HEw.out.keep HBl.out h8);have HCv:=hJ (kDI HRd.out hz HEr.out);have HCx:=hJ (fun (hv:kAK acc=true) (W':World) (hW:Below wr.heap.size wr W')=>shape_text (RShp.below HRd.out hW) hz (kFM hv).2.1 (HEr.out.below hW));have v0:=HBX.out.cell 0 _ rfl;have v1:=HBX.out.cell 1 _ rfl;clear HO hbx hown HRun HR2 HTot HTo hsl HPs hke hdl;generalize acc.dims.length=vm at *;cases hv:kAK acc with
      | false =>
        have HF:Hid (res=none):=hJ (by rw [HR3.out,hv];rfl);rw [hv] at HCv;clear HCx HR3 HRd
        go_wp2_with fail
        refine (HCv.out).mono ?_;rintro e w1 ⟨rfl,hb⟩;replace HRs:=hJ (HRs.out.below hb HRs.out.lt);replace HBl:=hJ (HBl.out.trans (hb.mono HBl.out.size));have z0:=HRs.out.cell 0 _ rfl;have z1:=HRs.out.cell 1 _ rfl;have f0:=HRs.out.fz 0;have f1:=HRs.out.fz 1;have hl0:=HRs.out.lt;have HZz:=hJ ((HRs.out.set 0 (.string ⟨#[]⟩)).set 1 (.slice none 0 0));have s0:=HZz.out.cell 0 _ rfl;have s1:=HZz.out.cell 1 _ rfl
        go_wp2_with fail
        refine bodyPost_ret (v:=.tuple #[.agg #[.string ⟨#[]⟩,.slice none 0 0],.int .i64 6]) (by simp [results,results100,go_sem,s0,s1,hl0]) rfl ?_;have HFr:Hid (∀ W,RShp.rd (fun k=>w.heap.size≤k) W [.string ⟨#[]⟩,.slice none 0 0] (optH res)):=hJ (fun W=>by rw [HF.out];exact ⟨_,rfl,none,0,rfl,Sl.empty RLin _ _⟩)
        first
         | exact ⟨⟨_,by rw [HF.out];rfl,HFr.out _⟩,HBl.out⟩
         | exact ⟨⟨_,by rw [HF.out];rfl,HFr.out _⟩,(HBl.out.setCell (zR _) _).setCell (zR _) _⟩
      | true =>
        rw [hv] at HCv HR3
        go_wp2_with fail
        refine (HCv.out).mono ?_;rintro e w1 ⟨rfl,hb⟩;have HC2:=hJ (HCx.out hv _ hb);have HB1:=hJ hb;replace v0:=(hb.cell (by show w.heap.size+1<_;omega)).trans v0;replace v1:=(hb.cell (by show w.heap.size+1<_;omega)).trans v1;clear HCv HCx
        go_wp2_with fail
        refine (HC2.out).mono ?_;rintro e w2 ⟨rfl,hb2⟩;have HB2:=hJ (HB1.out.trans (hb2.mono HB1.out.size));replace v0:=(hb2.cell (by have:=HB1.out.size;show w.heap.size+1<_;omega)).trans v0;replace v1:=(hb2.cell (by have:=HB1.out.size;show w.heap.size+1<_;omega)).trans v1;replace HRs:=hJ (HRs.out.below HB2.out HRs.out.lt);replace HBl:=hJ (HBl.out.trans (HB2.out.mono HBl.out.size));generalize kB6 acc=o at *;cases ho:(o.toList==s.toList) with
        | false =>
          have HF:Hid (res=none):=hJ (by rw [HR3.out,ho];rfl);have z0:=HRs.out.cell 0 _ rfl;have z1:=HRs.out.cell 1 _ rfl;have f0:=HRs.out.fz 0;have f1:=HRs.out.fz 1;have hl0:=HRs.out.lt;have HZz:=hJ ((HRs.out.set 0 (.string ⟨#[]⟩)).set 1 (.slice none 0 0));have s0:=HZz.out.cell 0 _ rfl;have s1:=HZz.out.cell 1 _ rfl
          go_wp2_with fail
          refine bodyPost_ret (v:=.tuple #[.agg #[.string ⟨#[]⟩,.slice none 0 0],.int .i64 6]) (by simp [results,results100,go_sem,s0,s1,hl0]) rfl ?_;have HFr:Hid (∀ W,RShp.rd (fun k=>w.heap.size≤k) W [.string ⟨#[]⟩,.slice none 0 0] (optH res)):=hJ (fun W=>by rw [HF.out];exact ⟨_,rfl,none,0,rfl,Sl.empty RLin _ _⟩)
          first
           | exact ⟨⟨_,by rw [HF.out];rfl,HFr.out _⟩,HBl.out⟩
           | exact ⟨⟨_,by rw [HF.out];rfl,HFr.out _⟩,(HBl.out.setCell (zR _) _).setCell (zR _) _⟩
        | true =>
          have HF:Hid (res=some acc):=hJ (by rw [HR3.out,ho];rfl);have z0:=HRs.out.cell 0 _ rfl;have z1:=HRs.out.cell 1 _ rfl;have f0:=HRs.out.fz 0;have f1:=HRs.out.fz 1;have hl0:=HRs.out.lt
          go_wp2_with fail
          have HZz:=hJ ((HRs.out.set 0 (.string acc.row)).set 1 (.slice va vm vc));have s0:=HZz.out.cell 0 _ rfl;have s1:=HZz.out.cell 1 _ rfl;refine bodyPost_ret (v:=.tuple #[.agg #[.string acc.row,.slice va vm vc],.int .i64 0]) (by simp [results,results100,go_sem,s0,s1,hl0]) rfl ?_;exact ⟨⟨_,by rw [HF.out];rfl,by rw [HF.out];exact RShp.mono (RShp.frame (RShp.frame (RShp.below HRd.out HB2.out) (fun q hq _=>kAA (a:=⟨w.heap.size,0,none⟩) (by show w.heap.size≠q;omega))) (fun q hq _=>kAA (a:=⟨w.heap.size,1,none⟩) (by show w.heap.size≠q;omega))) (fun q hq _=>by show w.heap.size≤q;omega)⟩,(HBl.out.setCell (zR _) _).setCell (zR _) _⟩
 · have HF:Hid (res=none):=hJ (by rw [HR.out];rw [if_neg hok])
   have HRs:=HRb;have HBl:=hJ ((zB _ w).alloc (zR _) (.cells #[.string ⟨#[]⟩,.slice none 0 0] 25));clear HR HRb HSp HC1 HC2;cases ok1 with
   | false =>
     clear hok;have z0:=HRs.out.cell 0 _ rfl;have z1:=HRs.out.cell 1 _ rfl;have f0:=HRs.out.fz 0;have f1:=HRs.out.fz 1;have hl0:=HRs.out.lt;have HZz:=hJ ((HRs.out.set 0 (.string ⟨#[]⟩)).set 1 (.slice none 0 0));have s0:=HZz.out.cell 0 _ rfl;have s1:=HZz.out.cell 1 _ rfl
     go_wp2_with fail
     refine bodyPost_ret (v:=.tuple #[.agg #[.string ⟨#[]⟩,.slice none 0 0],.int .i64 6]) (by simp [results,results100,go_sem,s0,s1,hl0]) rfl ?_;have HFr:Hid (∀ W,RShp.rd (fun k=>w.heap.size≤k) W [.string ⟨#[]⟩,.slice none 0 0] (optH res)):=hJ (fun W=>by rw [HF.out];exact ⟨_,rfl,none,0,rfl,Sl.empty RLin _ _⟩)
     first
      | exact ⟨⟨_,by rw [HF.out];rfl,HFr.out _⟩,HBl.out⟩
      | exact ⟨⟨_,by rw [HF.out];rfl,HFr.out _⟩,(HBl.out.setCell (zR _) _).setCell (zR _) _⟩
   | true =>
     cases ok2 with
     | false =>
       clear hok;have z0:=HRs.out.cell 0 _ rfl;have z1:=HRs.out.cell 1 _ rfl;have f0:=HRs.out.fz 0;have f1:=HRs.out.fz 1;have hl0:=HRs.out.lt;have HZz:=hJ ((HRs.out.set 0 (.string ⟨#[]⟩)).set 1 (.slice none 0 0));have s0:=HZz.out.cell 0 _ rfl;have s1:=HZz.out.cell 1 _ rfl
       go_wp2_with fail
       refine bodyPost_ret (v:=.tuple #[.agg #[.string ⟨#[]⟩,.slice none 0 0],.int .i64 6]) (by simp [results,results100,go_sem,s0,s1,hl0]) rfl ?_;have HFr:Hid (∀ W,RShp.rd (fun k=>w.heap.size≤k) W [.string ⟨#[]⟩,.slice none 0 0] (optH res)):=hJ (fun W=>by rw [HF.out];exact ⟨_,rfl,none,0,rfl,Sl.empty RLin _ _⟩)
       first
        | exact ⟨⟨_,by rw [HF.out];rfl,HFr.out _⟩,HBl.out⟩
        | exact ⟨⟨_,by rw [HF.out];rfl,HFr.out _⟩,(HBl.out.setCell (zR _) _).setCell (zR _) _⟩
     | true=>exact absurd rfl hok
def AllB (P:Int→Bool) (a:Str):Prop:=∀ c ∈ a.data.toList,P (c.toNat:Int)=true
theorem AllB.nil {P:Int→Bool}:AllB P ⟨#[]⟩:=fun c h=>by cases h
theorem AllB.app {P:Int→Bool} {a b:Str} (h1:AllB P a) (h2:AllB P b):AllB P (a++b):=fun c h=>by
 rw [ByteArray.data_append,Array.toList_append] at h;exact (List.mem_append.1 h).elim (h1 c) (h2 c)
theorem AllB.left {P:Int→Bool} {a b:Str} (h:AllB P (a++b)):AllB P a:=fun c q=>h c (by rw [ByteArray.data_append,Array.toList_append];exact List.mem_append.2 (.inl q))
theorem AllB.right {P:Int→Bool} {a b:Str} (h:AllB P (a++b)):AllB P b:=fun c q=>h c (by rw [ByteArray.data_append,Array.toList_append];exact List.mem_append.2 (.inr q))
theorem AllB.mono {P Q:Int→Bool} {a:Str} (h:AllB P a) (hq:∀ c,P c=true→Q c=true):AllB Q a:=fun c q=>hq _ (h c q)
theorem AllB.of {P:Int→Bool} {a:Str} (h:∀ i,i<a.size→P (bt a i)=true):AllB P a:=fun c hc=>by
 obtain ⟨i,hi⟩:=List.getElem?_of_mem hc
 have hl:i<a.size:=by
  rcases zF i a.data.toList.length with q | q
  · exact q
  · rw [List.getElem?_eq_none q] at hi;cases hi
 rw [← kJD a i c hi];exact h i hl
theorem AllB.to {P:Int→Bool} {a:Str} (h:AllB P a) {i:Nat} (hi:i<a.size):P (bt a i)=true:=by
 obtain ⟨c,h1,h2⟩:=at_bt a i hi;rw [h2];exact h c (List.mem_of_getElem? h1)
theorem AllB.ne {P:Int→Bool} {a:Str} (h:AllB P a) {c:Int} (hc:P c=false) {i:Nat} (hi:i<a.size):bt a i≠c:=fun e=>by
 have:=h.to hi;rw [e,hc] at this;cases this
def linC (c:Int):Bool:=kAT c || (kBA c || (c==95 || (c==43 || c==45)))
theorem linC_digit {c:Int} (h:kAT c=true):linC c=true:=by unfold linC;rw [h];rfl
theorem linC_letter {c:Int} (h:kBA c=true):linC c=true:=by unfold linC;rw [h];simp
theorem name_linC {v:Str} (h:kAZ v=true):AllB linC v:=AllB.of fun i hi=>by
 rcases (name_bytes h).2.2 i hi with q | q | ⟨q,_⟩
 · exact linC_digit q
 · exact linC_letter q
 · rw [q];decide
theorem body_linC {n:Nat} {v:Str} (h:PartOk n v):AllB linC (kBF n v):=by
 unfold kBF;refine AllB.app ?_ ?_
 · unfold numS
   split
   · exact AllB.nil
   · exact AllB.of fun i hi=>linC_digit (kDL n i hi)
 · cases he:v.toList.isEmpty with
   | true=>rw [empty_eq he];exact AllB.nil
   | false=>exact name_linC (h.name he).1
theorem sgn_linC (n:Int):AllB linC (sgnS n):=by
 unfold sgnS
 split <;> exact AllB.of fun i hi=>by
  obtain rfl:i=0:=by have:i<1:=hi;omega
  decide
theorem tail_linC:∀ (l:List (Int × Str)),(∀ p ∈ l,PairOk p)→AllB linC (kBZ l)
 | [],_=>AllB.nil
 | p :: l,h=>by
   show AllB linC (sgnS p.1++(kBF p.1.natAbs p.2++kBZ l))
   exact (sgn_linC _).app ((body_linC (h p (zM ..))).app (tail_linC l (fun q hq=>h q (zO _ hq))))
theorem first_linC (n:Int):AllB linC (kCT n):=by
 unfold kCT
 split
 · exact AllB.of fun i hi=>by
    obtain rfl:i=0:=by have:i<1:=hi;omega
    decide
 · exact AllB.nil
theorem kIB {x:Lin} (h:kAB x=true):AllB linC (kAS x):=by
 obtain ⟨p,l,e1,e2⟩:=printL_parts h;have hk:=pcs_ok h;rw [e1] at hk;rw [e2];exact (first_linC _).app ((body_linC (hk p (zM ..))).app (tail_linC l (fun q hq=>hk q (zO _ hq))))
theorem occ_no {s sep:Str} {c:UInt8} {t:List UInt8} (hs:sep.data.toList=c :: t) {j:Nat} (h:j<s.size→bt s j≠(c.toNat:Int)):Lib.occAt s.data.toList sep.data.toList j=false:=by
 cases ho:Lib.occAt s.data.toList sep.data.toList j with
 | false=>rfl
 | true =>
   have h1:=Lib.occAt_head hs ho
   have hl:j<s.size:=by
    rcases zF j s.data.toList.length with q | q
    · exact q
    · rw [List.getElem?_eq_none q] at h1;cases h1
   exact absurd (kJD s j c h1) (h hl)
theorem kEC (a b:Str):(a++b).data.toList=a.data.toList++b.data.toList:=by rw [ByteArray.data_append,Array.toList_append]
theorem index_at {a sep r:Str} (h:∀ j,j<a.size→Lib.occAt (a++(sep++r)).data.toList sep.data.toList j=false):Lib.indexB (a++(sep++r)) sep=(a.size:Int):=by
 have e:a.data.toList.length=a.size:=by rw [Array.length_toList];rfl
 refine Lib.index_hit (i:=a.size) (fun j hj=>h j hj) ?_ ?_
 · rw [kEC,zP,e];omega
 · unfold Lib.occAt
   rw [kEC,kEC,← e,List.drop_left];exact List.isPrefixOf_iff_prefix.2 (List.prefix_append _ _)
theorem index_no {s sep:Str} {c:UInt8} {t:List UInt8} (hs:sep.data.toList=c :: t) (h:∀ j,j<s.size→bt s j≠(c.toNat:Int)):Lib.indexB s sep= -1:=Lib.index_none fun j _=>occ_no hs (h j)
theorem head_no {a sep r:Str} {c:UInt8} {t:List UInt8} (hs:sep.data.toList=c :: t) (h:∀ j,j<a.size→bt a j≠(c.toNat:Int)):∀ j,j<a.size→Lib.occAt (a++(sep++r)).data.toList sep.data.toList j=false:=fun j hj=>occ_no hs fun _=>by rw [kB8 hj];exact h j hj
theorem cut_end {a b:Str}:(a++b).extract a.size (a++b).size=b:=by
 have:=kIF (a:=a) (b:=b) (c:=⟨#[]⟩);rw [kFC] at this;rw [zS];exact this
theorem cut_head {a b:Str}:(a++b).extract 0 a.size=a:=by
 have:=kIF (a:=⟨#[]⟩) (b:=a) (c:=b);rw [kGZ] at this;have e:(⟨#[]⟩:Str).size=0:=rfl;rw [e,Nat.zero_add] at this;exact this
theorem kFQ (x y:Str) (l:List Str) (sep:Str):kBB (x :: y :: l) sep=x++(sep++kBB (y :: l) sep):=by
 unfold kBB;rw [List.map_cons,List.map_cons,Lib.join_cons,Lib.join_cons];unfold Lib.joinTail;apply ByteArray.ext;rw [ByteArray.data_append,ByteArray.data_append];simp
theorem split_join {sep:Str} {c:UInt8} {t:List UInt8} (hs:sep.data.toList=c :: t):∀ (l:List Str) (x:Str),(∀ y ∈ x :: l,∀ j,j<y.size→bt y j≠(c.toNat:Int))→kBS (kBB (x :: l) sep) sep=x :: l
 | [],x,h=>by
   rw [kG3];unfold kBS;rw [Lib.splitB_miss _ _ _ _ (index_no hs (h x (zM ..)))]
 | y :: l,x,h=>by
   have ih:=split_join hs l y (fun z hz=>h z (zO _ hz))
   have hz:1≤sep.size:=by
    have:sep.data.toList.length=sep.size:=by rw [Array.length_toList];rfl
    rw [← this,hs];simp
   rw [kFQ];have hix:=index_at (a:=x) (sep:=sep) (r:=kBB (y :: l) sep) (head_no hs (h x (zM ..)))
   have hrest:(x++(sep++kBB (y :: l) sep)).extract (x.size+sep.size) (x++(sep++kBB (y :: l) sep)).size=kBB (y :: l) sep:=by
    rw [← ByteArray.append_assoc,← zS];exact cut_end
   unfold kBS at ih ⊢;rw [Lib.countB_hit _ _ _ hz hix,Nat.add_comm,Lib.splitB_hit _ _ _ _ _ hix,hrest,ih,Nat.add_zero,cut_head]
theorem hasP_app (p r:Str):hasP (p++r) p=true:=by
 unfold hasP Lib.hasPrefix;rw [kEC];exact List.isPrefixOf_iff_prefix.2 (List.prefix_append _ _)
theorem cutP_app (p r:Str):cutP (p++r) p=r:=by
 unfold cutP Lib.trimPrefix;have h:=hasP_app p r;unfold hasP at h;rw [if_pos h,kEC,List.drop_left]
theorem hasE_app (r e:Str):hasE (r++e) e=true:=by
 unfold hasE Lib.hasSuffix;rw [kEC];exact List.isSuffixOf_iff_suffix.2 (List.suffix_append _ _)
theorem cutE_app (r e:Str):cutE (r++e) e=r:=by
 unfold cutE Lib.trimSuffix;have h:=hasE_app r e;unfold hasE at h;rw [if_pos h,kEC,zP,Nat.add_sub_cancel,List.take_left]
theorem hasE_no {s e:Str} {P:Int→Bool} (h:AllB P s) {c:UInt8} (hc:c ∈ e.data.toList) (hp:P (c.toNat:Int)=false):hasE s e=false:=by
 cases ho:hasE s e with
 | false=>rfl
 | true =>
   have h1:e.data.toList <:+ s.data.toList:=List.isSuffixOf_iff_suffix.1 ho;have:=h c (h1.subset hc);rw [hp] at this;cases this
theorem inner_text (x:Shp):kBY (kB6 x)=kBB (rowL x++x.dims.map kAS) comS:=by
 unfold kBY kB6;rw [ByteArray.append_assoc,cutP_app,cutE_app];rfl
def noSep (c:Int):Bool:= !(c==44 || (c==91 || (c==93 || (c==32 || (c==41 || (c==58 || c==10))))))
theorem lin_noSep {c:Int} (h:linC c=true):noSep c=true:=by
 unfold linC kAT kBA at h;unfold noSep;simp at h ⊢;omega
theorem dots_noSep:AllB noSep ⟨#[46,46]⟩:=AllB.of fun i hi=>by
 have hi:i<2:=hi;obtain rfl | rfl:i=0∨i=1:=by omega
 · decide
 · decide
theorem row_name {x:Shp} (h:kAK x=true):x.row.toList.isEmpty=true∨kAZ x.row=true:=by
 unfold kAK at h;rw [zA] at h;have h1:=h.1;unfold rowB at h1
 simpa using h1
theorem kID {x:Shp} (h:kAK x=true):∀ y ∈ rowL x++x.dims.map kAS,AllB noSep y∧y.toList.isEmpty=false:=fun y hy=>by
 rcases List.mem_append.1 hy with q | q
 · refine ⟨?_,rowL_full x y q⟩
   unfold rowL at q
   split at q
   · cases q
   · rename_i he
     rw [List.mem_singleton.1 q];refine AllB.app ?_ dots_noSep;rcases row_name h with g | g
     · exact absurd g he
     · exact (name_linC g).mono fun c=>lin_noSep
 · obtain ⟨d,hd,rfl⟩:=List.mem_map.1 q
   have hv:=(kFY h).2 d hd;exact ⟨(kIB hv).mono fun c=>lin_noSep,printL_full hv⟩
theorem split_parts {x:Shp} (h:kAK x=true):kBS (kBY (kB6 x)) comS=if (rowL x++x.dims.map kAS).isEmpty then [⟨#[]⟩] else rowL x++x.dims.map kAS:=by
 have hp:=kID h;rw [inner_text];cases hl:rowL x++x.dims.map kAS with
 | nil =>
   rw [joinS_nil];unfold kBS;rw [Lib.splitB_miss _ _ _ _ (index_no (c:=44) (t:=[32]) rfl (fun j hj=>by cases hj))];rfl
 | cons y l =>
   rw [hl] at hp;exact split_join (c:=44) (t:=[32]) rfl l y (fun z hz j hj=>(hp z hz).1.ne (by decide) hj)
theorem runH_dims:∀ (ds:List Lin) (k:Nat) (acc:Shp),(∀ d ∈ ds,kAB d=true)→runH false (ds.map kAS) k acc=some ⟨acc.row,acc.dims++ds⟩
 | [],k,acc,_=>by rw [List.append_nil];rfl
 | d :: ds,k,acc,h=>by
   have hv:=h d (zM ..);obtain ⟨r1,r2⟩:=read_back itemP_law hv;have he:=hasE_no (e:=dotS) (kIB hv) (c:=46) (zM ..) (by decide);rw [List.map_cons,runH_cons];unfold stepH;rw [he,r1,r2]
   show runH false (ds.map kAS) (k+1) ⟨acc.row,acc.dims++[d]⟩=_
   rw [runH_dims ds (k+1) _ (fun q hq=>h q (zO _ hq))]
   show some (⟨acc.row,(acc.dims++[d])++ds⟩:Shp)=_
   rw [List.append_assoc];rfl
theorem kHJ {x:Shp} (h:kAK x=true):kIX (kB6 x)=some x:=by
 have hd:=(kFY h).2;have hfull:=joinS_full (l:=rowL x++x.dims.map kAS) (fun y hy=>(kID h y hy).2) comS
 have hrun:runH (kBY (kB6 x)).toList.isEmpty (kBS (kBY (kB6 x)) comS) 0 ⟨⟨#[]⟩,[]⟩=some x:=by
  rw [split_parts h,inner_text,hfull];by_cases hr:x.row.toList.isEmpty=true
  · have e1:rowL x=[]:=by unfold rowL;rw [if_pos hr]
    have e2:(⟨⟨#[]⟩,x.dims⟩:Shp)=x:=by rw [← empty_eq hr]
    rw [e1,List.nil_append];cases hds:x.dims with
    | nil =>
      rw [hds] at e2;rw [← e2];rfl
    | cons d ds =>
      rw [hds] at e2 hd;rw [← e2];have:=runH_dims (d :: ds) 0 ⟨⟨#[]⟩,[]⟩ hd
      simpa using this
  · have e1:rowL x=[x.row++dotS]:=by unfold rowL;rw [if_neg hr];rfl
    rw [e1]
    show runH false ((x.row++dotS) :: x.dims.map kAS) 0 ⟨⟨#[]⟩,[]⟩=_
    rw [runH_cons];unfold stepH;rw [hasE_app,cutE_app]
    show runH false (x.dims.map kAS) 1 ⟨x.row,[]⟩=_
    rw [runH_dims _ _ _ hd];rfl
 unfold kIX;have e1:hasP (kB6 x) ⟨#[91]⟩=true:=by unfold kB6;rw [ByteArray.append_assoc];exact hasP_app _ _
 have e2:hasE (cutP (kB6 x) ⟨#[91]⟩) ⟨#[93]⟩=true:=by unfold kB6;rw [ByteArray.append_assoc,cutP_app];exact hasE_app _ _
 rw [e1,e2,hrun]
 show (if kAK x && (kB6 x).toList==(kB6 x).toList then some x else none)=_
 rw [h];simp
theorem readH_sound {s:Str} {x:Shp} (h:kIX s=some x):kAK x=true∧kB6 x=s:=by
 unfold kIX at h
 split at h
 · split at h
   · cases h
   · split at h
     · rename_i y _ hc
       obtain rfl:=Option.some.inj h;rw [zA] at hc;exact ⟨hc.1,(kA6 _ _).1 hc.2⟩
     · cases h
 · cases h
theorem whole (p:Str):p.extract 0 p.size=p:=by
 have:=cut_head (a:=p) (b:=⟨#[]⟩)
 rwa [kFC] at this
def kD6 (s:Str):Nat:=(Lib.indexByte s.data.toList 93+1).toNat
def lastK (s:Str) (k:Nat):Nat:=(List.range k).foldl (fun a i=>if bt s i==93 then i+1 else a) 0
def frontK (s:Str) (k:Nat):Option Shp:=if 0<k then kIX (s.extract 0 k) else some ⟨⟨#[]⟩,[]⟩
def readK (s:Str) (k:Nat):Option Typ:=match frontK s k with
 | none=>none
 | some x=>if kAH ⟨s.extract k s.size,x⟩ && (kA9 ⟨s.extract k s.size,x⟩).toList==s.toList then some ⟨s.extract k s.size,x⟩ else none
def kGN (s:Str):Option Typ:=readK s (kD6 s)
theorem lastK_next (s:Str) (k:Nat):lastK s (k+1)=if bt s k==93 then k+1 else lastK s k:=by
 unfold lastK;rw [List.range_succ,List.foldl_append];rfl
theorem readK_sound {s:Str} {k:Nat} {t:Typ} (h:readK s k=some t):kAH t=true∧kA9 t=s:=by
 unfold readK at h
 split at h
 · cases h
 · split at h
   · rename_i y _ hc
     obtain rfl:=Option.some.inj h;rw [zA] at hc;exact ⟨hc.1,(kA6 _ _).1 hc.2⟩
   · cases h
def elC (c:Int):Bool:=kAT c || (kBA c || decide (65≤c∧c≤90))
theorem el_noSep {c:Int} (h:elC c=true):noSep c=true:=by
 unfold elC kAT kBA at h;unfold noSep;simp at h ⊢;omega
theorem elemVar_bytes {s:Str} (h:kAQ s=true):0<s.size∧(65≤bt s 0∧bt s 0≤90)∧∀ i,0<i→i<s.size→kAT (bt s i)=true:=by
 unfold kAQ at h;rw [zA,zA] at h;have h1:=of_decide_eq_true h.1;refine ⟨by omega,of_decide_eq_true h.2.1,fun i h0 hi=>?_⟩;have:=List.all_eq_true.1 h.2.2 i (List.mem_range.2 hi);rw [Bool.or_eq_true,beq_iff_eq] at this;rcases this with q | q
 · omega
 · exact q
theorem elem_elC {s:Str} (h:kD1 s=true):AllB elC s∧0<s.size:=by
 unfold kD1 at h;rw [Bool.or_eq_true,Bool.or_eq_true] at h;have hcl:∀ (l:List UInt8),(s.toList==l)=true→s.data.toList=l:=fun l q=>by rw [← ByteArray.toList_eq];exact beq_iff_eq.1 q
 rcases h with h | h | h
 · have e:=hcl _ h
   refine ⟨fun c hc=>?_,?_⟩
   · rw [e] at hc;revert c;decide
   · have:s.data.toList.length=s.size:=by rw [Array.length_toList];rfl
     rw [← this,e];decide
 · have e:=hcl _ h
   refine ⟨fun c hc=>?_,?_⟩
   · rw [e] at hc;revert c;decide
   · have:s.data.toList.length=s.size:=by rw [Array.length_toList];rfl
     rw [← this,e];decide
 · obtain ⟨h1,h2,h3⟩:=elemVar_bytes h
   refine ⟨AllB.of fun i hi=>?_,h1⟩;unfold elC;rcases Nat.eq_zero_or_pos i with rfl | q
   · rw [decide_eq_true h2];simp
   · rw [h3 i q hi];rfl
theorem textH_inj {x y:Shp} (hx:kAK x=true) (hy:kAK y=true) (h:kB6 x=kB6 y):x=y:=by
 have h1:=kHJ hx;rw [h,kHJ hy] at h1;exact (Option.some.inj h1).symm
theorem noShp_ok:kAK kEN=true∧kB6 kEN=⟨#[91,93]⟩:=by
 refine ⟨?_,?_⟩
 · unfold kAK rowB kEN
   show (((⟨#[]⟩:Str).toList.isEmpty || _) && _)=true
   rw [kFP];rfl
 · unfold kB6 rowL kEN
   rw [if_pos kFP];rfl
theorem kEJ {t:Typ} (h:kAH t=true):kD1 t.elem=true∧kAK t.shape=true:=by
 unfold kAH at h
 rwa [zA] at h
theorem kFH {t:Typ} (h:kAH t=true):(t.shape=kEN∧kA9 t=t.elem)∨(kA9 t=kB6 t.shape++t.elem):=by
 obtain ⟨h1,h2⟩:=kEJ h;unfold kA9;have e:kDW t.shape=kB6 t.shape:=by unfold kDW;rw [if_pos h2]
 rw [e];by_cases hq:((kB6 t.shape).toList==[91,93])=true
 · refine .inl ⟨textH_inj h2 noShp_ok.1 ?_,if_pos hq⟩
   rw [noShp_ok.2];exact (kA6 _ ⟨#[91,93]⟩).1 (by unfold seq;rw [beq_iff_eq.1 hq,ByteArray.toList_eq];rfl)
 · exact .inr (if_neg hq)
theorem kHB {x:Shp} (h:kAK x=true):∃ i:Str,kB6 x=(⟨#[91]⟩:Str)++(i++⟨#[93]⟩)∧(∀ j,j<i.size→bt i j≠93∧bt i j≠91∧bt i j≠10∧bt i j≠41∧bt i j≠58)∧∀ j,j<i.size→bt i j=32→0<j∧bt i (j - 1)=44:=by
 refine ⟨kBB (rowL x++x.dims.map kAS) comS,by unfold kB6;rw [ByteArray.append_assoc];rfl,?_⟩;have hp:=kID h;generalize rowL x++x.dims.map kAS=l at hp
 have:∀ (l:List Str),(∀ y ∈ l,AllB noSep y∧y.toList.isEmpty=false)→(∀ j,j<(kBB l comS).size→bt (kBB l comS) j≠93∧bt (kBB l comS) j≠91∧bt (kBB l comS) j≠10∧bt (kBB l comS) j≠41∧bt (kBB l comS) j≠58)∧∀ j,j<(kBB l comS).size→bt (kBB l comS) j=32→0<j∧bt (kBB l comS) (j - 1)=44:=by
  intro l
  induction l with
  | nil=>exact fun _=>⟨fun j hj=>(by cases hj),fun j hj=>(by cases hj)⟩
  | cons x l ih =>
    intro h;have hx:=(h x (zM ..)).1;have hne:∀ j,j<x.size→bt x j≠93∧bt x j≠91∧bt x j≠10∧bt x j≠41∧bt x j≠58∧bt x j≠32:=fun j hj=>⟨hx.ne (by decide) hj,hx.ne (by decide) hj,hx.ne (by decide) hj,hx.ne (by decide) hj,hx.ne (by decide) hj,hx.ne (by decide) hj⟩
    cases l with
    | nil =>
      rw [kG3];exact ⟨fun j hj=>⟨(hne j hj).1,(hne j hj).2.1,(hne j hj).2.2.1,(hne j hj).2.2.2.1,(hne j hj).2.2.2.2.1⟩,fun j hj e=>absurd e (hne j hj).2.2.2.2.2⟩
    | cons y l =>
      obtain ⟨i1,i2⟩:=ih (fun z hz=>h z (zO _ hz));rw [kFQ];generalize kBB (y :: l) comS=r at i1 i2;have hc:comS.size=2:=rfl;have hsz:(x++(comS++r)).size=x.size+(2+r.size):=by rw [zS,zS,hc]
      have b0:bt (x++(comS++r)) x.size=44:=by
       have:=kD7 (a:=x) (b:=comS) (c:=r) (k:=0) (by decide);rw [Nat.add_zero] at this;rw [this];decide
      have b1:bt (x++(comS++r)) (x.size+1)=32:=by
       rw [kD7 (a:=x) (b:=comS) (c:=r) (k:=1) (by decide)];decide
      have br:∀ k,k<r.size→bt (x++(comS++r)) (x.size+(2+k))=bt r k:=fun k hk=>by
       rw [kCX (by rw [zS,hc];omega)];exact kCX (a:=comS) hk
      refine ⟨fun j hj=>?_,fun j hj e=>?_⟩
      · rcases zF j x.size with q | q
        · rw [kB8 q]
          exact ⟨(hne j q).1,(hne j q).2.1,(hne j q).2.2.1,(hne j q).2.2.2.1,(hne j q).2.2.2.2.1⟩
        · obtain rfl | rfl | ⟨k,rfl⟩:j=x.size∨j=x.size+1∨∃ k,j=x.size+(2+k):=by
           rcases zF j (x.size+2) with g | g
           · omega
           · exact .inr (.inr ⟨j - x.size - 2,by omega⟩)
          · rw [b0];decide
          · rw [b1];decide
          · rw [br k (by omega)];exact i1 k (by omega)
      · rcases zF j x.size with q | q
        · rw [kB8 q] at e
          exact absurd e (hne j q).2.2.2.2.2
        · obtain rfl | rfl | ⟨k,rfl⟩:j=x.size∨j=x.size+1∨∃ k,j=x.size+(2+k):=by
           rcases zF j (x.size+2) with g | g
           · omega
           · exact .inr (.inr ⟨j - x.size - 2,by omega⟩)
          · rw [b0] at e;cases e
          · exact ⟨by omega,by rw [Nat.add_sub_cancel];exact b0⟩
          · rw [br k (by omega)] at e
            obtain ⟨k0,k1⟩:=i2 k (by omega) e;refine ⟨by omega,?_⟩;rw [show x.size+(2+k) - 1=x.size+(2+(k - 1)) by omega,br (k - 1) (by omega)];exact k1
 exact this l hp
theorem firstK_at {a r:Str} (h:∀ j,j<a.size→bt a j≠93):kD6 (a++((⟨#[93]⟩:Str)++r))=a.size+1:=by
 unfold kD6
 have hl:∀ (l m:List UInt8),(∀ c ∈ l,c≠93)→Lib.indexByte (l++93 :: m) 93=(l.length:Int):=by
  intro l m
  induction l with
  | nil=>intro _;rfl
  | cons c l ih =>
    intro h;have hc:(c==93)=false:=beq_eq_false_iff_ne.2 (h c (zM ..))
    show (if c==93 then (0:Int) else if Lib.indexByte (l++93 :: m) 93== -1 then -1 else Lib.indexByte (l++93 :: m) 93+1)=_
    rw [ih (fun q hq=>h q (zO _ hq)),hc,if_neg Bool.false_ne_true,if_neg (by rw [beq_eq_false_iff_ne.2 (by omega)];exact Bool.false_ne_true),List.length_cons];omega
 rw [kEC,kEC]
 show (Lib.indexByte (a.data.toList++93 :: r.data.toList) 93+1).toNat=_
 rw [hl _ _ (fun c hc e=>by
  obtain ⟨i,hi⟩:=List.getElem?_of_mem hc
  have hlt:i<a.size:=by
   rcases zF i a.data.toList.length with q | q
   · exact q
   · rw [List.getElem?_eq_none q] at hi;cases hi
  have:=kJD a i c hi;rw [e] at this;exact h i hlt this),show a.data.toList.length=a.size from rfl]
 omega
theorem firstK_no {a:Str} (h:∀ j,j<a.size→bt a j≠93):kD6 a=0:=by
 unfold kD6
 have hl:∀ (l:List UInt8),(∀ c ∈ l,c≠93)→Lib.indexByte l 93= -1:=by
  intro l
  induction l with
  | nil=>intro _;rfl
  | cons c l ih =>
    intro h;have hc:(c==93)=false:=beq_eq_false_iff_ne.2 (h c (zM ..))
    show (if c==93 then (0:Int) else if Lib.indexByte l 93== -1 then -1 else Lib.indexByte l 93+1)=_
    rw [ih (fun q hq=>h q (zO _ hq)),hc];rfl
 rw [hl _ (fun c hc e=>by
  obtain ⟨i,hi⟩:=List.getElem?_of_mem hc
  have hlt:i<a.size:=by
   rcases zF i a.data.toList.length with q | q
   · exact q
   · rw [List.getElem?_eq_none q] at hi;cases hi
  have:=kJD a i c hi;rw [e] at this;exact h i hlt this)]
 rfl
theorem lastK_stay {s:Str} {k:Nat}:∀ (d:Nat),(∀ j,k≤j→j<k+d→bt s j≠93)→lastK s (k+d)=lastK s k
 | 0,_=>rfl
 | d+1,h=>by
   rw [← Nat.add_assoc,lastK_next,if_neg (by rw [beq_eq_false_iff_ne.2 (h (k+d) (by omega) (by omega))];exact Bool.false_ne_true)];exact lastK_stay d (fun j h1 h2=>h j h1 (by omega))
theorem places {t:Typ} (h:kAH t=true):∃ k,kD6 (kA9 t)=k∧lastK (kA9 t) (kA9 t).size=k∧frontK (kA9 t) k=some t.shape∧(kA9 t).extract k (kA9 t).size=t.elem:=by
 obtain ⟨h1,h2⟩:=kEJ h;obtain ⟨he,_⟩:=elem_elC h1;rcases kFH h with ⟨e1,e2⟩ | e2
 · rw [e2,e1]
   refine ⟨0,firstK_no fun j hj=>he.ne (by decide) hj,?_,rfl,whole _⟩;have:=lastK_stay (s:=t.elem) (k:=0) t.elem.size (fun j _ hj=>he.ne (by decide) (by omega));rw [Nat.zero_add] at this;rw [this];rfl
 · obtain ⟨i,f1,f2,_⟩:=kHB h2
   have e3:kA9 t=((⟨#[91]⟩:Str)++i)++((⟨#[93]⟩:Str)++t.elem):=by rw [e2,f1];simp only [ByteArray.append_assoc]
   have hb:∀ j,j<((⟨#[91]⟩:Str)++i).size→bt ((⟨#[91]⟩:Str)++i) j≠93:=fun j hj=>by
    rw [zS,show (⟨#[91]⟩:Str).size=1 from rfl] at hj;rcases Nat.eq_zero_or_pos j with rfl | q
    · rw [kB8 (by decide)];decide
    · obtain ⟨m,rfl⟩:∃ m,j=1+m:=⟨j - 1,by omega⟩
      have:=kCX (a:=(⟨#[91]⟩:Str)) (b:=i) (k:=m) (by omega);rw [show (⟨#[91]⟩:Str).size=1 from rfl] at this;rw [this];exact (f2 m (by omega)).1
   have hk:(kB6 t.shape).size=((⟨#[91]⟩:Str)++i).size+1:=by rw [f1,← ByteArray.append_assoc,zS];rfl
   refine ⟨(kB6 t.shape).size,?_,?_,?_,?_⟩
   · rw [e3,hk];exact firstK_at hb
   · rw [show (kA9 t).size=(kB6 t.shape).size+t.elem.size by rw [e2,zS],lastK_stay (k:=(kB6 t.shape).size) _ (fun j h1 h2=>by
      obtain ⟨m,rfl⟩:∃ m,j=(kB6 t.shape).size+m:=⟨j - (kB6 t.shape).size,by omega⟩
      rw [e2,kCX (by omega)];exact he.ne (by decide) (by omega)),hk,lastK_next,if_pos]
     · rw [e3]
       have:=kD7 (a:=(⟨#[91]⟩:Str)++i) (b:=(⟨#[93]⟩:Str)) (c:=t.elem) (k:=0) (by decide);rw [Nat.add_zero] at this;rw [this];decide
   · unfold frontK
     rw [if_pos (by omega),e2,cut_head];exact kHJ h2
   · rw [e2];exact cut_end
theorem readT_back {t:Typ} (h:kAH t=true):kGN (kA9 t)=some t∧readK (kA9 t) (lastK (kA9 t) (kA9 t).size)=some t:=by
 obtain ⟨k,k1,k2,k3,k4⟩:=places h
 have:readK (kA9 t) k=some t:=by
  unfold readK;rw [k3,k4]
  show (if kAH t && (kA9 t).toList==(kA9 t).toList then some t else none)=_
  rw [h];simp
 exact ⟨by unfold kGN;rw [k1];exact this,by rw [k2];exact this⟩
def optT (o:Option Typ):Typ:=match o with
 | none=>kB4
 | some t=>t
theorem index_lt {s:Str} {i:Nat} (h:Lib.indexByte s.data.toList 93=(i:Int)):i<s.size:=by
 have h1:=(Lib.indexByte_some h).1;rcases zF i s.data.toList.length with q | q
 · exact q
 · rw [List.getElem?_eq_none q] at h1;cases h1
theorem elemB_sz {s:Str} (h:kD1 s=true):s.size≤30:=by
 unfold kD1 at h;rw [Bool.or_eq_true,Bool.or_eq_true] at h
 have hcl:∀ (l:List UInt8),(s.toList==l)=true→s.size=l.length:=fun l q=>by
  rw [← beq_iff_eq.1 q,ByteArray.toList_eq,Array.length_toList];rfl
 rcases h with h | h | h
 · rw [hcl _ h];decide
 · rw [hcl _ h];decide
 · unfold kAQ at h
   rw [zA] at h;have:=of_decide_eq_true h.1;omega
theorem readH_sz {s:Str} {x:Shp} (h:kIX s=some x):szH x:=by
 obtain ⟨h1,_⟩:=readH_sound h;refine ⟨?_,fun d hd=>valid_szL ((kFY h1).2 d hd)⟩;rcases row_name h1 with q | q
 · rw [empty_eq q];decide
 · exact zE (kC7 q) (by decide)
theorem shape_Parse_some {s:Str} {x:Shp} (h:kIX s=some x) (hs:s.size≤1000000) (hp:∀ x ∈ kBS (kBY s) comS,x.size≤900) (w:World) (E:EnvM w) :
 Calls Tryz.prog 100 #[.string s] w fun e w'=>(∃ ds,e= .returned (.tuple #[.agg ds.toArray,.int .i64 0])∧RShp.rd (fun k=>w.heap.size≤k) w' ds x)∧Below w.heap.size w w':=by
 have:=shape_Parse s hs hp w E;rw [h] at this;exact this
theorem shape_Parse_none {s:Str} (h:kIX s=none) (hs:s.size≤1000000) (hp:∀ x ∈ kBS (kBY s) comS,x.size≤900) (w:World) (E:EnvM w) :
 Calls Tryz.prog 100 #[.string s] w fun e w'=>(∃ ds,e= .returned (.tuple #[.agg ds.toArray,.int .i64 6])∧RShp.rd (fun k=>w.heap.size≤k) w' ds kEN)∧Below w.heap.size w w':=by
 have:=shape_Parse s hs hp w E;rw [h] at this;exact this
theorem types_Parse (s:Str) (hs:s.size≤10000) (hp:∀ x ∈ kBS (kBY (s.extract 0 (kD6 s))) comS,x.size≤900) (w:World) (E:EnvM w) :
 Calls Tryz.prog 44 #[.string s] w fun e w'=>(∃ ds,e= .returned (.tuple #[.agg ds.toArray,.int .i64 (optE (kGN s))])∧RTyp.rd (fun k=>w.heap.size≤k) w' ds (optT (kGN s)))∧Below w.heap.size w w':=by
 have HE:=hJ E;have h8:8≤w.heap.size:=E.env.big;have HR:Hid (kGN s=match frontK s (kD6 s) with | none=>none | some x=>if kAH ⟨s.extract (kD6 s) s.size,x⟩ && (kA9 ⟨s.extract (kD6 s) s.size,x⟩).toList==s.toList then some ⟨s.extract (kD6 s) s.size,x⟩ else none):=hJ rfl;have HK:Hid (kD6 s=(Lib.indexByte s.data.toList 93+1).toNat):=hJ rfl;have HI:=fun W=>Tryz.strings_IndexByte s 93 W
 change ∀ W,Calls _ _ _ W fun e w'=>e= .returned (.int .i64 (Lib.indexByte s.data.toList 93))∧_ at HI
 have HI:=hJ HI;have HP:=hJ hp;have hge:=Lib.indexByte_ge s.data.toList 93;have hlt:∀ i:Nat,Lib.indexByte s.data.toList 93=(i:Int)→i<s.size:=fun i=>index_lt
 clear E hp;generalize kGN s=res at *;have HRb:=hJ (Bx.fresh w 27 [.string ⟨#[]⟩,.string ⟨#[]⟩,.slice none 0 0]);have HOb:=hJ (Bx.fresh (w.alloc (.cells #[.string ⟨#[]⟩,.string ⟨#[]⟩,.slice none 0 0] 27)) 27 [.string s,.string ⟨#[]⟩,.slice none 0 0]);have e1:(w.alloc (.cells #[.string ⟨#[]⟩,.string ⟨#[]⟩,.slice none 0 0] 27)).heap.size=w.heap.size+1:=by simp
 have HBl:=hJ (((zB _ w).alloc (zR _) (.cells #[.string ⟨#[]⟩,.string ⟨#[]⟩,.slice none 0 0] 27)).alloc (by rw [e1];omega) (.cells #[.string s,.string ⟨#[]⟩,.slice none 0 0] 27));replace HRb:=hJ (HRb.out.alloc (.cells #[.string s,.string ⟨#[]⟩,.slice none 0 0] 27));rw [e1] at HOb;go_enter func44,ntmps44
 go_wp2_with fail
 refine (HI.out _).mono ?_;rintro e W0 ⟨rfl,rfl⟩;clear HI e1;by_cases hix:Lib.indexByte s.data.toList 93= -1
 · have HK0:Hid (kD6 s=0):=hJ (by rw [HK.out,hix];rfl)
   have hq:decide (Lib.indexByte s.data.toList 93 ≥ 0)=false:=decide_eq_false (by omega);have HR3:Hid (res=if kAH ⟨s,kEN⟩ && (kA9 ⟨s,kEN⟩).toList==s.toList then some ⟨s,kEN⟩ else none):=hJ (by rw [HR.out,HK0.out];show (match (some kEN:Option Shp) with | none=>none | some x=>_)=_;rw [whole];rfl);generalize (w.alloc (.cells #[.string ⟨#[]⟩,.string ⟨#[]⟩,.slice none 0 0] 27)).alloc (.cells #[.string s,.string ⟨#[]⟩,.slice none 0 0] 27)=W at *;have HEr:=hJ (HE.out.env.keep HBl.out h8);have HRs:=HRb
   obtain ⟨y,ry,va,vm,vc,t,HBX,HRd,hz,HR3⟩:∃ y ry va vm vc t,Hid (Bx W (w.heap.size+1) 27 [.string y,.string ry,.slice va vm vc])∧Hid (RTyp.rd (fun q=>w.heap.size+1<q) W [.string y,.string ry,.slice va vm vc] t)∧szT t∧Hid (res=if kAH t && (kA9 t).toList==s.toList then some t else none) :=
    ⟨s,⟨#[]⟩,none,0,0,⟨s,kEN⟩,HOb,hJ ⟨_,rfl,none,0,rfl,Sl.empty RLin _ _⟩,⟨hs,Nat.zero_le _,fun d hd=>by cases hd⟩,HR3⟩
   clear HRb HOb HR HK HK0 HP;have HCv:=hJ (kDH HRd.out hz HEr.out);have HCx:=hJ (fun (W':World) (hW:Below W.heap.size W W')=>kHA (RTyp.below HRd.out hW) hz (HEr.out.below hW));have v0:=HBX.out.cell 0 _ rfl;have v1:=HBX.out.cell 1 _ rfl;have v2:=HBX.out.cell 2 _ rfl;have hlw:=HBX.out.lt;cases hv:kAH t with
   | false =>
     have HF:Hid (res=none):=hJ (by rw [HR3.out,hv];rfl);rw [hv] at HCv;clear HCx HR3 HRd
     go_wp2_with fail
     refine (HCv.out).mono ?_;rintro e w1 ⟨rfl,hb⟩;replace HRs:=hJ (HRs.out.below hb HRs.out.lt);replace HBl:=hJ (HBl.out.trans (hb.mono HBl.out.size));have z0:=HRs.out.cell 0 _ rfl;have z1:=HRs.out.cell 1 _ rfl;have z2:=HRs.out.cell 2 _ rfl;have f0:=HRs.out.fz 0;have f1:=HRs.out.fz 1;have f2:=HRs.out.fz 2;have hl0:=HRs.out.lt;have HZz:=hJ (((HRs.out.set 0 (.string ⟨#[]⟩)).set 1 (.string ⟨#[]⟩)).set 2 (.slice none 0 0));have s0:=HZz.out.cell 0 _ rfl;have s1:=HZz.out.cell 1 _ rfl;have s2:=HZz.out.cell 2 _ rfl
     go_upto_region 9 with fail
     (try simp only []);repeat (first | go_values | go_skip | go_guarded | go_step | go_upon)
     refine bodyPost_ret (v:=.tuple #[.agg #[.string ⟨#[]⟩,.string ⟨#[]⟩,.slice none 0 0],.int .i64 6]) (by simp [results,results44,go_sem,s0,s1,s2,hl0]) rfl ?_;have HFr:Hid (∀ W,RTyp.rd (fun k=>w.heap.size≤k) W [.string ⟨#[]⟩,.string ⟨#[]⟩,.slice none 0 0] (optT res)):=hJ (fun W=>by rw [HF.out];exact ⟨_,rfl,none,0,rfl,Sl.empty RLin _ _⟩);exact ⟨⟨_,by rw [HF.out];rfl,HFr.out _⟩,((HBl.out.setCell (zR _) _).setCell (zR _) _).setCell (zR _) _⟩
   | true =>
     rw [hv] at HCv HR3
     go_wp2_with fail
     refine (HCv.out).mono ?_;rintro e w1 ⟨rfl,hb⟩;have HC2:=hJ (HCx.out _ hb);have HB1:=hJ hb;replace v0:=(hb.cell (by show w.heap.size+1<_;omega)).trans v0;replace v1:=(hb.cell (by show w.heap.size+1<_;omega)).trans v1;replace v2:=(hb.cell (by show w.heap.size+1<_;omega)).trans v2;clear HCv HCx
     go_wp2_with fail
     refine (HC2.out).mono ?_;rintro e w2 ⟨rfl,hb2⟩;have HB2:=hJ (HB1.out.trans (hb2.mono HB1.out.size));replace v0:=(hb2.cell (by have:=HB1.out.size;show w.heap.size+1<_;omega)).trans v0;replace v1:=(hb2.cell (by have:=HB1.out.size;show w.heap.size+1<_;omega)).trans v1;replace v2:=(hb2.cell (by have:=HB1.out.size;show w.heap.size+1<_;omega)).trans v2;replace HRs:=hJ (HRs.out.below HB2.out HRs.out.lt);replace HBl:=hJ (HBl.out.trans (HB2.out.mono HBl.out.size));generalize kA9 t=o at *;cases ho:(o.toList==s.toList) with
     | false =>
       have HF:Hid (res=none):=hJ (by rw [HR3.out,ho];rfl);have z0:=HRs.out.cell 0 _ rfl;have z1:=HRs.out.cell 1 _ rfl;have z2:=HRs.out.cell 2 _ rfl;have f0:=HRs.out.fz 0;have f1:=HRs.out.fz 1;have f2:=HRs.out.fz 2;have hl0:=HRs.out.lt;have HZz:=hJ (((HRs.out.set 0 (.string ⟨#[]⟩)).set 1 (.string ⟨#[]⟩)).set 2 (.slice none 0 0));have s0:=HZz.out.cell 0 _ rfl;have s1:=HZz.out.cell 1 _ rfl;have s2:=HZz.out.cell 2 _ rfl
       go_upto_region 9 with fail
       (try simp only []);repeat (first | go_values | go_skip | go_guarded | go_step | go_upon)
       refine bodyPost_ret (v:=.tuple #[.agg #[.string ⟨#[]⟩,.string ⟨#[]⟩,.slice none 0 0],.int .i64 6]) (by simp [results,results44,go_sem,s0,s1,s2,hl0]) rfl ?_;have HFr:Hid (∀ W,RTyp.rd (fun k=>w.heap.size≤k) W [.string ⟨#[]⟩,.string ⟨#[]⟩,.slice none 0 0] (optT res)):=hJ (fun W=>by rw [HF.out];exact ⟨_,rfl,none,0,rfl,Sl.empty RLin _ _⟩);exact ⟨⟨_,by rw [HF.out];rfl,HFr.out _⟩,((HBl.out.setCell (zR _) _).setCell (zR _) _).setCell (zR _) _⟩
     | true =>
       have HF:Hid (res=some t):=hJ (by rw [HR3.out,ho];rfl);have z0:=HRs.out.cell 0 _ rfl;have z1:=HRs.out.cell 1 _ rfl;have z2:=HRs.out.cell 2 _ rfl;have f0:=HRs.out.fz 0;have f1:=HRs.out.fz 1;have f2:=HRs.out.fz 2;have hl0:=HRs.out.lt
       go_upto_region 10 with fail
       (try simp only []);repeat (first | go_values | go_skip | go_guarded | go_step | go_upon)
       have HZz:=hJ (((HRs.out.set 0 (.string y)).set 1 (.string ry)).set 2 (.slice va vm vc));have s0:=HZz.out.cell 0 _ rfl;have s1:=HZz.out.cell 1 _ rfl;have s2:=HZz.out.cell 2 _ rfl;refine bodyPost_ret (v:=.tuple #[.agg #[.string y,.string ry,.slice va vm vc],.int .i64 0]) (by simp [results,results44,go_sem,s0,s1,s2,hl0]) rfl ?_;exact ⟨⟨_,by rw [HF.out];rfl,by rw [HF.out];exact RTyp.mono (RTyp.frame (RTyp.frame (RTyp.frame (RTyp.below HRd.out HB2.out) (fun q hq _=>kAA (a:=⟨w.heap.size,0,none⟩) (by show w.heap.size≠q;omega))) (fun q hq _=>kAA (a:=⟨w.heap.size,1,none⟩) (by show w.heap.size≠q;omega))) (fun q hq _=>kAA (a:=⟨w.heap.size,2,none⟩) (by show w.heap.size≠q;omega))) (fun q hq _=>by show w.heap.size≤q;omega)⟩,((HBl.out.setCell (zR _) _).setCell (zR _) _).setCell (zR _) _⟩
 · obtain ⟨i,hi⟩:∃ i:Nat,Lib.indexByte s.data.toList 93=(i:Int):=⟨(Lib.indexByte s.data.toList 93).toNat,by omega⟩
   have hil:=hlt i hi;rw [hi] at HK;have HK1:Hid (kD6 s=i+1):=hJ (by rw [HK.out];omega);rw [HK1.out] at HR HP;have hq:decide ((i:Int) ≥ 0)=true:=decide_eq_true (by omega);have hto:((i:Int)+1).toNat=i+1:=by omega
   have hxz:=kDO s (a:=0) (b:=i+1) (by omega);have HF0:Hid (frontK s (i+1)=kIX (s.extract 0 (i+1))):=hJ (by unfold frontK;rw [if_pos (by omega)]);rw [HF0.out] at HR;have hyz:=kDO s (a:=i+1) (b:=s.size) (zR _);have HEw:=hJ (HE.out.keep HBl.out h8);rw [hi];clear HK HK1 hlt hge hix hi HF0;have hW:∃ W,W=(w.alloc (.cells #[.string ⟨#[]⟩,.string ⟨#[]⟩,.slice none 0 0] 27)).alloc (.cells #[.string s,.string ⟨#[]⟩,.slice none 0 0] 27):=⟨_,rfl⟩
   cases hox:kIX (s.extract 0 (i+1)) with
   | none =>
     have HC:=hJ (fun W E=>shape_Parse_none hox (by rw [hxz];omega) HP.out W E);have HF:Hid (res=none):=hJ (by rw [HR.out,hox]);clear HR hox;clear HP hxz
     go_wp2_with fail
     generalize (w.alloc (.cells #[.string ⟨#[]⟩,.string ⟨#[]⟩,.slice none 0 0] 27)).alloc (.cells #[.string s,.string ⟨#[]⟩,.slice none 0 0] 27)=W at *;have hlW:=HOb.out.lt;refine (HC.out _ HEw.out).mono ?_;rintro e w4 ⟨⟨ds,rfl,ty,rfl,ay,cy,rfl,hy⟩,hb4⟩;have hz4:=hb4.size;have HX:=hJ (Bx.fresh w4 25 [.string (kEN).row,.slice ay (kEN).dims.length cy]);have HY:=hJ (hy.below ((zB _ _).alloc (zR _) (.cells #[.string (kEN).row,.slice ay (kEN).dims.length cy] 25)));have HB5:=hJ (hb4.alloc hz4 (.cells #[.string (kEN).row,.slice ay (kEN).dims.length cy] 25));have HRs:=hJ (HRb.out.below HB5.out HRb.out.lt);replace HOb:=hJ (HOb.out.below HB5.out HOb.out.lt);replace HBl:=hJ (HBl.out.trans (HB5.out.mono HBl.out.size));have x0:=HX.out.cell 0 _ rfl;have x1:=HX.out.cell 1 _ rfl;clear HRb hb4 hy HC hW;clear HY HOb HX HB5 x0 x1;have z0:=HRs.out.cell 0 _ rfl;have z1:=HRs.out.cell 1 _ rfl;have z2:=HRs.out.cell 2 _ rfl;have f0:=HRs.out.fz 0;have f1:=HRs.out.fz 1;have f2:=HRs.out.fz 2;have hl0:=HRs.out.lt;have HZz:=hJ (((HRs.out.set 0 (.string ⟨#[]⟩)).set 1 (.string ⟨#[]⟩)).set 2 (.slice none 0 0));have s0:=HZz.out.cell 0 _ rfl;have s1:=HZz.out.cell 1 _ rfl;have s2:=HZz.out.cell 2 _ rfl
     go_upto_region 6 with fail
     (try simp only []);repeat (first | go_values | go_skip | go_guarded | go_step | go_upon)
     refine bodyPost_ret (v:=.tuple #[.agg #[.string ⟨#[]⟩,.string ⟨#[]⟩,.slice none 0 0],.int .i64 6]) (by simp [results,results44,go_sem,s0,s1,s2,hl0]) rfl ?_;have HFr:Hid (∀ W,RTyp.rd (fun k=>w.heap.size≤k) W [.string ⟨#[]⟩,.string ⟨#[]⟩,.slice none 0 0] (optT res)):=hJ (fun W=>by rw [HF.out];exact ⟨_,rfl,none,0,rfl,Sl.empty RLin _ _⟩);exact ⟨⟨_,by rw [HF.out];rfl,HFr.out _⟩,((HBl.out.setCell (zR _) _).setCell (zR _) _).setCell (zR _) _⟩
   | some x =>
     have HC:=hJ (fun W E=>shape_Parse_some hox (by rw [hxz];omega) HP.out W E);have hxs:=readH_sz hox;replace HR:Hid (res=if kAH ⟨s.extract (i+1) s.size,x⟩ && (kA9 ⟨s.extract (i+1) s.size,x⟩).toList==s.toList then some ⟨s.extract (i+1) s.size,x⟩ else none):=hJ (by rw [HR.out,hox]);clear hox;clear HP hxz
     go_wp2_with fail
     generalize (w.alloc (.cells #[.string ⟨#[]⟩,.string ⟨#[]⟩,.slice none 0 0] 27)).alloc (.cells #[.string s,.string ⟨#[]⟩,.slice none 0 0] 27)=W at *;have hlW:=HOb.out.lt;refine (HC.out _ HEw.out).mono ?_;rintro e w4 ⟨⟨ds,rfl,ty,rfl,ay,cy,rfl,hy⟩,hb4⟩;have hz4:=hb4.size;have HX:=hJ (Bx.fresh w4 25 [.string (x).row,.slice ay (x).dims.length cy]);have HY:=hJ (hy.below ((zB _ _).alloc (zR _) (.cells #[.string (x).row,.slice ay (x).dims.length cy] 25)));have HB5:=hJ (hb4.alloc hz4 (.cells #[.string (x).row,.slice ay (x).dims.length cy] 25));have HRs:=hJ (HRb.out.below HB5.out HRb.out.lt);replace HOb:=hJ (HOb.out.below HB5.out HOb.out.lt);replace HBl:=hJ (HBl.out.trans (HB5.out.mono HBl.out.size));have x0:=HX.out.cell 0 _ rfl;have x1:=HX.out.cell 1 _ rfl;clear HRb hb4 hy HC hW;have v0:=HOb.out.cell 0 _ rfl;have v1:=HOb.out.cell 1 _ rfl;have v2:=HOb.out.cell 2 _ rfl;have f0:=HOb.out.fz 0;have f1:=HOb.out.fz 1;have f2:=HOb.out.fz 2;have hlo:=HOb.out.lt
     go_wp2_with fail
     have hb0:(0:Int)≤(i:Int)+1:=by omega
     have hb1:(i:Int)+1≤(s.size:Int):=by omega
     have hb2:IntKind.i64.wrap ((i:Int)+1)=(i:Int)+1:=by rw [IntKind.wrap_i64];omega
     have hfar:∀ (W:World) (j:Nat) (u1 u2 u3:Value),(((W.setCell ⟨w.heap.size+1,0,none⟩ u1).setCell ⟨w.heap.size+1,1,none⟩ u2).setCell ⟨w.heap.size+1,2,none⟩ u3).cell? ⟨w4.heap.size,j,none⟩=W.cell? ⟨w4.heap.size,j,none⟩:=fun W j u1 u2 u3=>by
      have hn:w.heap.size+1≠w4.heap.size:=by omega
      rw [World.cell?_setCell_far _ _ _ _ hn,World.cell?_setCell_far _ _ _ _ hn,World.cell?_setCell_far _ _ _ _ hn]
     go_region_held3 (fun W=>W.cell? ⟨w4.heap.size,0,none⟩=some (.string x.row)∧W.cell? ⟨w4.heap.size,1,none⟩=some (.slice ay x.dims.length cy)) (first | exact ⟨x0,x1⟩ | (with_reducible exact ⟨(hfar _ _ _ _ _).trans x0,(hfar _ _ _ _ _).trans x1⟩) | go_keep) (fail)
     have hne:w.heap.size+1≠w.heap.size:=by omega
     replace HOb:=hJ (((HOb.out.set 0 (.string (s.extract (i+1) s.size))).set 1 (.string x.row)).set 2 (.slice ay x.dims.length cy)).drew;replace HRs:=hJ (((HRs.out.other (a:=⟨w.heap.size+1,0,none⟩) (u:=.string (s.extract (i+1) s.size)) hne).other (a:=⟨w.heap.size+1,1,none⟩) (u:=.string x.row) hne).other (a:=⟨w.heap.size+1,2,none⟩) (u:=.slice ay x.dims.length cy) hne).drew;replace HBl:=hJ (Below.drew (((HBl.out.setCell (show w.heap.size≤(⟨w.heap.size+1,0,none⟩:Addr).block from Nat.le_succ _) (.string (s.extract (i+1) s.size))).setCell (show w.heap.size≤(⟨w.heap.size+1,1,none⟩:Addr).block from Nat.le_succ _) (.string x.row)).setCell (show w.heap.size≤(⟨w.heap.size+1,2,none⟩:Addr).block from Nat.le_succ _) (.slice ay x.dims.length cy)));replace HY:=hJ (((HY.out.frame (w':=World.setCell _ ⟨w.heap.size+1,0,none⟩ (.string (s.extract (i+1) s.size))) (fun k hk _=>kAA (by show w.heap.size+1≠k;omega))).frame (w':=World.setCell _ ⟨w.heap.size+1,1,none⟩ (.string x.row)) (fun k hk _=>kAA (by show w.heap.size+1≠k;omega))).frame (w':=World.setCell _ ⟨w.heap.size+1,2,none⟩ (.slice ay x.dims.length cy)) (fun k hk _=>kAA (by show w.heap.size+1≠k;omega)));clear x0 x1 v0 v1 v2 f0 f1 f2 HX HB5 hfar hb0 hb1 hb2 hlo hto hq;have HY2:Hid (Sl RLin (fun k=>W.heap.size≤k) ((((w4.alloc (.cells #[.string x.row,.slice ay x.dims.length cy] 25)).setCell ⟨w.heap.size+1,0,none⟩ (.string (s.extract (i+1) s.size))).setCell ⟨w.heap.size+1,1,none⟩ (.string x.row)).setCell ⟨w.heap.size+1,2,none⟩ (.slice ay x.dims.length cy)).drew ay x.dims.length cy x.dims):=hJ (HY.out.frame fun _ _ _=>rfl);clear HY;generalize ((((w4.alloc (.cells #[.string x.row,.slice ay x.dims.length cy] 25)).setCell ⟨w.heap.size+1,0,none⟩ (.string (s.extract (i+1) s.size))).setCell ⟨w.heap.size+1,1,none⟩ (.string x.row)).setCell ⟨w.heap.size+1,2,none⟩ (.slice ay x.dims.length cy)).drew=W2 at *;have HEr:=hJ (HE.out.env.keep HBl.out h8)
     obtain ⟨y,ry,va,vm,vc,t,HBX,HRd,hz,HR3⟩:∃ y ry va vm vc t,Hid (Bx W2 (w.heap.size+1) 27 [.string y,.string ry,.slice va vm vc])∧Hid (RTyp.rd (fun q=>w.heap.size+1<q) W2 [.string y,.string ry,.slice va vm vc] t)∧szT t∧Hid (res=if kAH t && (kA9 t).toList==s.toList then some t else none) :=
      ⟨s.extract (i+1) s.size,x.row,ay,x.dims.length,cy,⟨s.extract (i+1) s.size,x⟩,HOb,hJ ⟨_,rfl,ay,cy,rfl,HY2.out.mono (fun q hq _=>by omega)⟩,⟨by show (s.extract (i+1) s.size).size≤_;omega,hxs⟩,HR⟩
     clear HOb HR HY2 HEw;have HCv:=hJ (kDH HRd.out hz HEr.out);have HCx:=hJ (fun (W':World) (hW:Below W2.heap.size W2 W')=>kHA (RTyp.below HRd.out hW) hz (HEr.out.below hW));have v0:=HBX.out.cell 0 _ rfl;have v1:=HBX.out.cell 1 _ rfl;have v2:=HBX.out.cell 2 _ rfl;have hlw:=HBX.out.lt;cases hv:kAH t with
     | false =>
       have HF:Hid (res=none):=hJ (by rw [HR3.out,hv];rfl);rw [hv] at HCv;clear HCx HR3 HRd
       go_wp2_with fail
       refine (HCv.out).mono ?_;rintro e w1 ⟨rfl,hb⟩;replace HRs:=hJ (HRs.out.below hb HRs.out.lt);replace HBl:=hJ (HBl.out.trans (hb.mono HBl.out.size));have z0:=HRs.out.cell 0 _ rfl;have z1:=HRs.out.cell 1 _ rfl;have z2:=HRs.out.cell 2 _ rfl;have f0:=HRs.out.fz 0;have f1:=HRs.out.fz 1;have f2:=HRs.out.fz 2;have hl0:=HRs.out.lt;have HZz:=hJ (((HRs.out.set 0 (.string ⟨#[]⟩)).set 1 (.string ⟨#[]⟩)).set 2 (.slice none 0 0));have s0:=HZz.out.cell 0 _ rfl;have s1:=HZz.out.cell 1 _ rfl;have s2:=HZz.out.cell 2 _ rfl
       go_upto_region 9 with fail
       (try simp only []);repeat (first | go_values | go_skip | go_guarded | go_step | go_upon)
       refine bodyPost_ret (v:=.tuple #[.agg #[.string ⟨#[]⟩,.string ⟨#[]⟩,.slice none 0 0],.int .i64 6]) (by simp [results,results44,go_sem,s0,s1,s2,hl0]) rfl ?_;have HFr:Hid (∀ W,RTyp.rd (fun k=>w.heap.size≤k) W [.string ⟨#[]⟩,.string ⟨#[]⟩,.slice none 0 0] (optT res)):=hJ (fun W=>by rw [HF.out];exact ⟨_,rfl,none,0,rfl,Sl.empty RLin _ _⟩);exact ⟨⟨_,by rw [HF.out];rfl,HFr.out _⟩,((HBl.out.setCell (zR _) _).setCell (zR _) _).setCell (zR _) _⟩
     | true =>
       rw [hv] at HCv HR3
       go_wp2_with fail
       refine (HCv.out).mono ?_;rintro e w1 ⟨rfl,hb⟩;have HC2:=hJ (HCx.out _ hb);have HB1:=hJ hb;replace v0:=(hb.cell (by show w.heap.size+1<_;omega)).trans v0;replace v1:=(hb.cell (by show w.heap.size+1<_;omega)).trans v1;replace v2:=(hb.cell (by show w.heap.size+1<_;omega)).trans v2;clear HCv HCx
       go_wp2_with fail
       refine (HC2.out).mono ?_;rintro e w2 ⟨rfl,hb2⟩;have HB2:=hJ (HB1.out.trans (hb2.mono HB1.out.size));replace v0:=(hb2.cell (by have:=HB1.out.size;show w.heap.size+1<_;omega)).trans v0;replace v1:=(hb2.cell (by have:=HB1.out.size;show w.heap.size+1<_;omega)).trans v1;replace v2:=(hb2.cell (by have:=HB1.out.size;show w.heap.size+1<_;omega)).trans v2;replace HRs:=hJ (HRs.out.below HB2.out HRs.out.lt);replace HBl:=hJ (HBl.out.trans (HB2.out.mono HBl.out.size));generalize kA9 t=o at *;cases ho:(o.toList==s.toList) with
       | false =>
         have HF:Hid (res=none):=hJ (by rw [HR3.out,ho];rfl);have z0:=HRs.out.cell 0 _ rfl;have z1:=HRs.out.cell 1 _ rfl;have z2:=HRs.out.cell 2 _ rfl;have f0:=HRs.out.fz 0;have f1:=HRs.out.fz 1;have f2:=HRs.out.fz 2;have hl0:=HRs.out.lt;have HZz:=hJ (((HRs.out.set 0 (.string ⟨#[]⟩)).set 1 (.string ⟨#[]⟩)).set 2 (.slice none 0 0));have s0:=HZz.out.cell 0 _ rfl;have s1:=HZz.out.cell 1 _ rfl;have s2:=HZz.out.cell 2 _ rfl
         go_upto_region 9 with fail
         (try simp only []);repeat (first | go_values | go_skip | go_guarded | go_step | go_upon)
         refine bodyPost_ret (v:=.tuple #[.agg #[.string ⟨#[]⟩,.string ⟨#[]⟩,.slice none 0 0],.int .i64 6]) (by simp [results,results44,go_sem,s0,s1,s2,hl0]) rfl ?_;have HFr:Hid (∀ W,RTyp.rd (fun k=>w.heap.size≤k) W [.string ⟨#[]⟩,.string ⟨#[]⟩,.slice none 0 0] (optT res)):=hJ (fun W=>by rw [HF.out];exact ⟨_,rfl,none,0,rfl,Sl.empty RLin _ _⟩);exact ⟨⟨_,by rw [HF.out];rfl,HFr.out _⟩,((HBl.out.setCell (zR _) _).setCell (zR _) _).setCell (zR _) _⟩
       | true =>
         have HF:Hid (res=some t):=hJ (by rw [HR3.out,ho];rfl);have z0:=HRs.out.cell 0 _ rfl;have z1:=HRs.out.cell 1 _ rfl;have z2:=HRs.out.cell 2 _ rfl;have f0:=HRs.out.fz 0;have f1:=HRs.out.fz 1;have f2:=HRs.out.fz 2;have hl0:=HRs.out.lt
         go_upto_region 10 with fail
         (try simp only []);repeat (first | go_values | go_skip | go_guarded | go_step | go_upon)
         have HZz:=hJ (((HRs.out.set 0 (.string y)).set 1 (.string ry)).set 2 (.slice va vm vc));have s0:=HZz.out.cell 0 _ rfl;have s1:=HZz.out.cell 1 _ rfl;have s2:=HZz.out.cell 2 _ rfl;refine bodyPost_ret (v:=.tuple #[.agg #[.string y,.string ry,.slice va vm vc],.int .i64 0]) (by simp [results,results44,go_sem,s0,s1,s2,hl0]) rfl ?_;exact ⟨⟨_,by rw [HF.out];rfl,by rw [HF.out];exact RTyp.mono (RTyp.frame (RTyp.frame (RTyp.frame (RTyp.below HRd.out HB2.out) (fun q hq _=>kAA (a:=⟨w.heap.size,0,none⟩) (by show w.heap.size≠q;omega))) (fun q hq _=>kAA (a:=⟨w.heap.size,1,none⟩) (by show w.heap.size≠q;omega))) (fun q hq _=>kAA (a:=⟨w.heap.size,2,none⟩) (by show w.heap.size≠q;omega))) (fun q hq _=>by show w.heap.size≤q;omega)⟩,((HBl.out.setCell (zR _) _).setCell (zR _) _).setCell (zR _) _⟩
def arrS:Str:=⟨#[41,32,45,62,32]⟩
def whrS:Str:=⟨#[32,119,104,101,114,101,32]⟩
def parS:Str:=⟨#[40]⟩
def kCK (s:Str) (k:Nat):Int:=(List.range k).foldl (fun d i=>if bt s i==91 then d+1 else if bt s i==93 then d - 1 else d) 0
theorem kCP (s:Str) (k:Nat):kCK s (k+1)=if bt s k==91 then kCK s k+1 else if bt s k==93 then kCK s k - 1 else kCK s k:=by
 unfold kCK;rw [List.range_succ,List.foldl_append];rfl
def cut1 (s p:Str):Str:=⟨(Lib.cut s.data.toList p.data.toList).1.toArray⟩
def cut2 (s p:Str):Str:=⟨(Lib.cut s.data.toList p.data.toList).2.1.toArray⟩
def cut3 (s p:Str):Bool:=(Lib.cut s.data.toList p.data.toList).2.2
def parF (s:Str):Nat→Nat × List Str
 | 0=>(0,[])
 | k+1=>if bt s k=44∧kCK s k=0∧(parF s k).1≤k∧k+1<s.size then (min (k+2) s.size,(parF s k).2++[s.extract (parF s k).1 k]) else parF s k
def kCQ (s:Str):List Str:=(parF s s.size).2++[s.extract (parF s s.size).1 s.size]
def kG0:List Str→List Typ→Option (List Typ)
 | [],acc=>some acc
 | x :: l,acc=>match kGN x with
   | none=>none
   | some t=>kG0 l (acc++[t])
def kG1:List Str→List Lin→Option (List Lin)
 | [],acc=>some acc
 | x :: l,acc=>if lossE (kB9 (kBU x) x)=0 then kG1 l (acc++[lossX (kB9 (kBU x) x)]) else none
def okSch (s:Str) (x:Sch):Option Sch:=if kAI x && (kC4 x).toList==s.toList then some x else none
def kFR (s:Str):Str:=cutP (cut1 s arrS) parS
def readS (s:Str):Option Sch :=
 if cut3 s arrS && hasP (cut1 s arrS) parS then
  match kG0 (if (kFR s).toList.isEmpty then [] else kCQ (kFR s)) [] with
  | none=>none
  | some ps=>match kGN (cut1 (cut2 s arrS) whrS) with
    | none=>none
    | some t=>match (if cut3 (cut2 s arrS) whrS then kG1 (kBS (cut2 (cut2 s arrS) whrS) comS) [] else some []) with
      | none=>none
      | some ls=>okSch s ⟨ps,t,ls⟩
 else none
theorem okSch_self {x:Sch} (h:kAI x=true):okSch (kC4 x) x=some x:=by
 unfold okSch;rw [h];simp
theorem kEH {a b:Str}:∀ (j:Nat),j≤a.size→kCK (a++b) j=kCK a j
 | 0,_=>rfl
 | j+1,h=>by
   rw [kCP,kCP,kB8 (by omega),kEH j (by omega)]
theorem kCC {a b:Str}:∀ (j:Nat),j≤b.size→kCK (a++b) (a.size+j)=kCK a a.size+kCK b j
 | 0,_=>by
   rw [Nat.add_zero,kEH _ (zR _)]
   show _=_+(0:Int)
   omega
 | j+1,h=>by
   rw [← Nat.add_assoc,kCP,kCP,kCX (by omega),kCC j (by omega)]
   split
   · omega
   · split <;> omega
theorem deepN_flat {a:Str}:∀ (j:Nat),j≤a.size→(∀ i,i<j→bt a i≠91∧bt a i≠93)→kCK a j=0
 | 0,_,_=>rfl
 | j+1,h,hb=>by
   obtain ⟨h1,h2⟩:=hb j (Nat.lt_succ_self _);rw [kCP,beq_eq_false_iff_ne.2 h1,beq_eq_false_iff_ne.2 h2,deepN_flat j (by omega) (fun i hi=>hb i (by omega))];rfl
structure Calm (a:Str):Prop where
 end_:kCK a a.size=0
 out:∀ j,j<a.size→kCK a j=0→bt a j≠44∧bt a j≠32∧bt a j≠41
theorem Calm.flat {a:Str} (h:AllB noSep a):Calm a :=
 ⟨deepN_flat _ (zR _) fun i hi=>⟨h.ne (by decide) hi,h.ne (by decide) hi⟩,fun j hj _=>⟨h.ne (by decide) hj,h.ne (by decide) hj,h.ne (by decide) hj⟩⟩
theorem Calm.app {a b:Str} (ha:Calm a) (hb:Calm b):Calm (a++b):=by
 refine ⟨by rw [zS,kCC _ (zR _),ha.end_,hb.end_];rfl,fun j hj hd=>?_⟩;rcases zF j a.size with q | q
 · rw [kEH _ (by omega)] at hd
   rw [kB8 q];exact ha.out j q hd
 · obtain ⟨k,rfl⟩:∃ k,j=a.size+k:=⟨j - a.size,by omega⟩
   rw [zS] at hj;rw [kCC _ (by omega),ha.end_,Int.zero_add] at hd;rw [kCX (by omega)];exact hb.out k (by omega) hd
theorem kHR {s:Str} (h:kD1 s=true):AllB noSep s:=(elem_elC h).1.mono fun c=>el_noSep
theorem textH_calm {x:Shp} (h:kAK x=true):Calm (kB6 x):=by
 obtain ⟨i,e,hi,_⟩:=kHB h;rw [e];have hc:(⟨#[91]⟩:Str).size=1:=rfl;have hd:(⟨#[93]⟩:Str).size=1:=rfl;have d1:kCK (⟨#[91]⟩:Str) 1=1:=by decide
 have fi:∀ j,j≤i.size→kCK i j=0:=fun j hj=>deepN_flat j hj fun k hk=>⟨(hi k (by omega)).2.1,(hi k (by omega)).1⟩
 have fm:∀ j,j≤i.size→kCK ((⟨#[91]⟩:Str)++(i++⟨#[93]⟩)) (1+j)=1:=fun j hj=>by
  have:=kCC (a:=(⟨#[91]⟩:Str)) (b:=i++⟨#[93]⟩) j (by rw [zS];omega);rw [hc] at this;rw [this,d1,kEH _ hj,fi j hj];rfl
 have hsz:((⟨#[91]⟩:Str)++(i++⟨#[93]⟩)).size=1+(i.size+1):=by rw [zS,zS,hc,hd]
 have bl:bt ((⟨#[91]⟩:Str)++(i++⟨#[93]⟩)) (1+i.size)=93:=by
  have:=kCX (a:=(⟨#[91]⟩:Str)) (b:=i++⟨#[93]⟩) (k:=i.size) (by rw [zS];omega);rw [hc] at this;rw [this];have:=kCX (a:=i) (b:=⟨#[93]⟩) (k:=0) (by decide);rw [Nat.add_zero] at this;rw [this];decide
 refine ⟨?_,fun j hj hdj=>?_⟩
 · rw [hsz,← Nat.add_assoc,kCP,fm _ (zR _),bl];rfl
 · rcases Nat.eq_zero_or_pos j with rfl | q
   · rw [kB8 (by decide)];decide
   · obtain ⟨m,rfl⟩:∃ m,j=1+m:=⟨j - 1,by omega⟩
     rw [fm m (by omega)] at hdj;cases hdj
theorem textT_calm {t:Typ} (h:kAH t=true):Calm (kA9 t):=by
 obtain ⟨h1,h2⟩:=kEJ h;rcases kFH h with ⟨_,e⟩ | e
 · rw [e];exact Calm.flat (kHR h1)
 · rw [e];exact (textH_calm h2).app (Calm.flat (kHR h1))
theorem textT_full {t:Typ} (h:kAH t=true):(kA9 t).toList.isEmpty=false:=by
 obtain ⟨h1,h2⟩:=kEJ h;have:=(elem_elC h1).2;rcases kFH h with ⟨_,e⟩ | e
 · rw [e];exact kGX this
 · rw [e];exact kGX (by rw [zS];omega)
theorem parF_calm {s a x r:Str} {out:List Str} (hs:s=a++(x++r)) (hd:kCK a a.size=0) (hx:Calm x) (hp:parF s a.size=(a.size,out)):∀ j,j≤x.size→parF s (a.size+j)=(a.size,out)
 | 0,_=>hp
 | j+1,h=>by
   have ih:=parF_calm hs hd hx hp j (by omega)
   show parF s (a.size+j+1)=_
   unfold parF;rw [ih,if_neg];rintro ⟨c1,c2,_⟩;rw [hs,kD7 (by omega)] at c1;rw [hs,kCC _ (by rw [zS];omega),hd,Int.zero_add,kEH _ (by omega)] at c2;exact (hx.out j (by omega) c2).1 c1
theorem params_join:∀ (l:List Str) (x a:Str) (out:List Str) (s:Str),s=a++kBB (x :: l) comS→kCK a a.size=0→(∀ y ∈ x :: l,Calm y∧y.toList.isEmpty=false)→parF s a.size=(a.size,out) →
 (parF s s.size).2++[s.extract (parF s s.size).1 s.size]=out++(x :: l)
 | [],x,a,out,s,hs,hd,hl,hp=>by
   rw [kG3] at hs;have h1:=parF_calm (r:=⟨#[]⟩) (hs.trans (by rw [kFC])) hd (hl x (zM ..)).1 hp x.size (zR _);have hsz:s.size=a.size+x.size:=by rw [hs,zS]
   rw [hsz,h1,← hsz]
   show out++[s.extract a.size s.size]=_
   rw [hs,cut_end]
 | y :: l,x,a,out,s,hs,hd,hl,hp=>by
   rw [kFQ] at hs;have hc:comS.size=2:=rfl;have hxc:=(hl x (zM ..)).1;have h1:=parF_calm hs hd hxc hp x.size (zR _);have hj:0<(kBB (y :: l) comS).size:=size_full (by rw [joinS_full (fun z hz=>(hl z (zO _ hz)).2)];rfl);have hsz:s.size=a.size+(x.size+(2+(kBB (y :: l) comS).size)):=by rw [hs,zS,zS,zS,hc]
   have hs2:s=(a++x)++(comS++kBB (y :: l) comS):=by rw [hs,ByteArray.append_assoc]
   have hax:(a++x).size=a.size+x.size:=zS;have hdx:kCK (a++x) (a++x).size=0:=by rw [hax,kCC _ (zR _),hd,hxc.end_];rfl
   have b0:bt s (a.size+x.size)=44:=by
    have:=kD7 (a:=a++x) (b:=comS) (c:=kBB (y :: l) comS) (k:=0) (by decide);rw [Nat.add_zero,hax] at this;rw [hs2,this];decide
   have b1:bt s (a.size+x.size+1)=32:=by
    have:=kD7 (a:=a++x) (b:=comS) (c:=kBB (y :: l) comS) (k:=1) (by decide);rw [hax] at this;rw [hs2,this];decide
   have d0:kCK s (a.size+x.size)=0:=by rw [hs2,← hax,kEH _ (zR _)];exact hdx
   have ex:s.extract a.size (a.size+x.size)=x:=by rw [hs];exact kIF
   have h2:parF s (a.size+x.size+1)=(a.size+x.size+2,out++[x]):=by
    unfold parF;rw [h1,if_pos ⟨b0,d0,Nat.le_add_right _ _,by omega⟩,ex,Nat.min_eq_left (by omega)]
   have h3:parF s (a.size+x.size+2)=(a.size+x.size+2,out++[x]):=by
    show parF s (a.size+x.size+1+1)=_
    rw [show parF s (a.size+x.size+1+1)=if bt s (a.size+x.size+1)=44∧_ then _ else parF s (a.size+x.size+1) from rfl,if_neg (by rw [b1];rintro ⟨q,_⟩;cases q)];exact h2
   have hac:((a++x)++comS).size=a.size+x.size+2:=by rw [zS,hax,hc]
   have hs3:s=((a++x)++comS)++kBB (y :: l) comS:=by rw [hs2,ByteArray.append_assoc,ByteArray.append_assoc,ByteArray.append_assoc]
   have hd3:kCK ((a++x)++comS) ((a++x)++comS).size=0:=by
    rw [zS,kCC _ (zR _),hdx]
    decide
   have:=params_join l y ((a++x)++comS) (out++[x]) s hs3 hd3 (fun z hz=>hl z (zO _ hz)) (by rw [hac];exact h3);rw [this,List.append_assoc];rfl
theorem params_back {x:Str} {l:List Str} (hl:∀ y ∈ x :: l,Calm y∧y.toList.isEmpty=false):kCQ (kBB (x :: l) comS)=x :: l:=by
 have:=params_join l x ⟨#[]⟩ [] (kBB (x :: l) comS) (kGZ _).symm rfl hl rfl
 rwa [List.nil_append] at this
theorem listT_back:∀ (l acc:List Typ),(∀ t ∈ l,kAH t=true)→kG0 (l.map kA9) acc=some (acc++l)
 | [],acc,_=>by rw [List.append_nil];rfl
 | t :: l,acc,h=>by
   show (match kGN (kA9 t) with | none=>none | some t=>kG0 (l.map kA9) (acc++[t]))=_
   rw [(readT_back (h t (zM ..))).1]
   show kG0 (l.map kA9) (acc++[t])=_
   rw [listT_back l _ (fun q hq=>h q (zO _ hq)),List.append_assoc];rfl
theorem listL_back:∀ (l acc:List Lin),(∀ t ∈ l,kAB t=true)→kG1 (l.map kAS) acc=some (acc++l)
 | [],acc,_=>by rw [List.append_nil];rfl
 | t :: l,acc,h=>by
   obtain ⟨r1,r2⟩:=read_back itemP_law (h t (zM ..))
   show (if lossE (kB9 (kBU (kAS t)) (kAS t))=0 then kG1 (l.map kAS) (acc++[lossX (kB9 (kBU (kAS t)) (kAS t))]) else none)=_
   rw [r1,r2,if_pos rfl,listL_back l _ (fun q hq=>h q (zO _ hq)),List.append_assoc];rfl
theorem kIK {x:Sch} (h:kAI x=true):(∀ t ∈ x.params,kAH t=true)∧kAH x.result=true:=by
 unfold kAI at h;rw [zA,zA,zA,zA] at h;refine ⟨fun t ht=>?_,h.2.2.2.1⟩;have h2:=h.2.2.1;rw [Bool.not_eq_true',List.any_eq_false] at h2;have:=h2 t ht
 simpa using this
theorem AllB.join {P:Int→Bool} {sep:Str} (hs:AllB P sep):∀ (l:List Str),(∀ y ∈ l,AllB P y)→AllB P (kBB l sep)
 | [],_=>AllB.nil
 | [x],h=>by rw [kG3];exact h x (zM ..)
 | x :: y :: l,h=>by
   rw [kFQ];exact (h x (zM ..)).app (hs.app (AllB.join hs (y :: l) (fun z hz=>h z (zO _ hz))))
theorem Bal.join:∀ (l:List Str),(∀ y ∈ l,Calm y)→kCK (kBB l comS) (kBB l comS).size=0
 | [],_=>rfl
 | [x],h=>by rw [kG3];exact (h x (zM ..)).end_
 | x :: y :: l,h=>by
   rw [kFQ,zS,kCC _ (zR _),(h x (zM ..)).end_,zS,kCC _ (zR _),Bal.join (y :: l) (fun z hz=>h z (zO _ hz))]
   decide
def plainC (c:Int):Bool:= !(c==41 || (c==58 || c==10))
theorem noSep_plain {c:Int} (h:noSep c=true):plainC c=true:=by
 unfold noSep at h;unfold plainC;simp at h ⊢;omega
theorem textH_plain {x:Shp} (h:kAK x=true):AllB plainC (kB6 x):=by
 obtain ⟨i,e,hi,_⟩:=kHB h;rw [e];refine AllB.app ?_ (AllB.app ?_ ?_)
 · exact AllB.of fun j hj=>by obtain rfl:j=0:=by (have:j<1:=hj;omega)
                              decide
 · exact AllB.of fun j hj=>by
    obtain ⟨_,_,h10,h41,h58⟩:=hi j hj;unfold plainC;rw [beq_eq_false_iff_ne.2 h10,beq_eq_false_iff_ne.2 h41,beq_eq_false_iff_ne.2 h58];rfl
 · exact AllB.of fun j hj=>by obtain rfl:j=0:=by (have:j<1:=hj;omega)
                              decide
theorem textT_plain {t:Typ} (h:kAH t=true):AllB plainC (kA9 t):=by
 obtain ⟨h1,h2⟩:=kEJ h;have he:=(kHR h1).mono fun c=>noSep_plain
 rcases kFH h with ⟨_,e⟩ | e
 · rw [e];exact he
 · rw [e];exact (textH_plain h2).app he
def Spaced (a:Str):Prop:=∀ j,j<a.size→bt a j=32→0<j∧bt a (j - 1)=44
theorem textT_spaced {t:Typ} (h:kAH t=true):Spaced (kA9 t):=by
 obtain ⟨h1,h2⟩:=kEJ h;have he:=kHR h1;rcases kFH h with ⟨_,e⟩ | e
 · rw [e];exact fun j hj e=>absurd e (he.ne (by decide) hj)
 · obtain ⟨i,f,_,hi⟩:=kHB h2
   have e2:kA9 t=(⟨#[91]⟩:Str)++(i++((⟨#[93]⟩:Str)++t.elem)):=by rw [e,f];simp only [ByteArray.append_assoc]
   have hc:(⟨#[91]⟩:Str).size=1:=rfl
   have hm:∀ k,k<i.size→bt (kA9 t) (1+k)=bt i k:=fun k hk=>by
    have:=kD7 (a:=(⟨#[91]⟩:Str)) (b:=i) (c:=(⟨#[93]⟩:Str)++t.elem) hk;rw [hc] at this;rw [e2];exact this
   intro j hj hb;rcases Nat.eq_zero_or_pos j with rfl | q
   · rw [e2,kB8 (by decide)] at hb;exact absurd hb (by decide)
   · obtain ⟨m,rfl⟩:∃ m,j=1+m:=⟨j - 1,by omega⟩
     rcases zF m i.size with g | g
     · rw [hm m g] at hb
       obtain ⟨k0,k1⟩:=hi m g hb;refine ⟨q,?_⟩;rw [show 1+m - 1=1+(m - 1) by omega,hm _ (by omega)];exact k1
     · exfalso
       rw [e2,zS,zS,zS,hc,show (⟨#[93]⟩:Str).size=1 from rfl] at hj;have e3:kA9 t=((⟨#[91]⟩:Str)++i)++((⟨#[93]⟩:Str)++t.elem):=by rw [e2,ByteArray.append_assoc]
       have hai:((⟨#[91]⟩:Str)++i).size=1+i.size:=by rw [zS,hc]
       obtain ⟨u,rfl⟩:∃ u,m=i.size+u:=⟨m - i.size,by omega⟩
       rw [e3,show 1+(i.size+u)=((⟨#[91]⟩:Str)++i).size+u by omega,kCX (by rw [zS,show (⟨#[93]⟩:Str).size=1 from rfl];omega)] at hb;rcases Nat.eq_zero_or_pos u with rfl | g2
       · rw [kB8 (by decide)] at hb;exact absurd hb (by decide)
       · obtain ⟨v,rfl⟩:∃ v,u=1+v:=⟨u - 1,by omega⟩
         have:=kCX (a:=(⟨#[93]⟩:Str)) (b:=t.elem) (k:=v) (by omega);rw [show (⟨#[93]⟩:Str).size=1 from rfl] at this;rw [this] at hb;exact he.ne (by decide) (by omega:v<t.elem.size) hb
theorem occ_bt {s sep:Str} {j:Nat} (h:Lib.occAt s.data.toList sep.data.toList j=true):∀ k,k<sep.size→j+k<s.size∧bt s (j+k)=bt sep k:=fun k hk=>by
 obtain ⟨t,ht⟩:=List.isPrefixOf_iff_prefix.1 h;obtain ⟨c,h1,h2⟩:=at_bt sep k hk
 have e:(s.data.toList.drop j)[k]? =some c:=by
  rw [← ht,List.getElem?_append_left (by rcases zF k sep.data.toList.length with q | q;exact q;rw [List.getElem?_eq_none q] at h1;cases h1)];exact h1
 rw [List.getElem?_drop] at e;refine ⟨?_,?_⟩
 · rcases zF (j+k) s.data.toList.length with q | q
   · exact q
   · rw [List.getElem?_eq_none q] at e;cases e
 · rw [kJD s _ c e,h2]
theorem deepN_stay {a:Str} {j:Nat}:∀ (d:Nat),(∀ k,k<d→bt a (j+k)≠91∧bt a (j+k)≠93)→kCK a (j+d)=kCK a j
 | 0,_=>rfl
 | d+1,h=>by
   obtain ⟨h1,h2⟩:=h d (Nat.lt_succ_self _);rw [← Nat.add_assoc,kCP,beq_eq_false_iff_ne.2 h1,beq_eq_false_iff_ne.2 h2,if_neg Bool.false_ne_true,if_neg Bool.false_ne_true];exact deepN_stay d fun k hk=>h k (by omega)
theorem whr_bytes:∀ k,k<7→bt whrS k≠91∧bt whrS k≠93:=fun k hk=>by
 obtain rfl | rfl | rfl | rfl | rfl | rfl | rfl:k=0∨k=1∨k=2∨k=3∨k=4∨k=5∨k=6:=by omega
 all_goals decide
theorem where_no {a r:Str} (hc:Calm a) (hs:Spaced a):∀ j,j<a.size→Lib.occAt (a++r).data.toList whrS.data.toList j=false:=fun j hj=>by
 cases ho:Lib.occAt (a++r).data.toList whrS.data.toList j with
 | false=>rfl
 | true =>
   exfalso
   have hw:whrS.size=7:=rfl;have hb:=fun k hk=>(occ_bt ho k hk).2
   have h0:=hb 0 (by decide);rw [Nat.add_zero,kB8 hj] at h0;have h0:bt a j=32:=h0.trans (by decide);by_cases h6:j+6<a.size
   · have q6:=hb 6 (by decide)
     rw [kB8 h6] at q6;have q5:=hb 5 (by decide);rw [kB8 (by omega)] at q5;obtain ⟨_,p⟩:=hs (j+6) h6 (q6.trans (by decide));rw [show j+6 - 1=j+5 by omega,q5] at p
     revert p;decide
   · have hd:kCK a j≠0:=fun e=>(hc.out j hj e).2.1 h0
     apply hd
     have:=deepN_stay (a:=a) (j:=j) (a.size - j) (fun k hk=>by
      have:=hb k (by omega);rw [kB8 (by omega)] at this;rw [this];exact whr_bytes k (by omega))
     rw [← this,show j+(a.size - j)=a.size by omega];exact hc.end_
theorem cut_hit {a sep r:Str} (h:∀ j,j<a.size→Lib.occAt (a++(sep++r)).data.toList sep.data.toList j=false):cut1 (a++(sep++r)) sep=a∧cut2 (a++(sep++r)) sep=r∧cut3 (a++(sep++r)) sep=true:=by
 obtain ⟨h1,h2,h3⟩:=Lib.cutB_hit _ _ _ (index_at h);refine ⟨h1.trans cut_head,h2.trans ?_,h3⟩;rw [← ByteArray.append_assoc,← zS];exact cut_end
theorem cut_miss {s sep:Str} (h:Lib.indexB s sep= -1):cut1 s sep=s∧cut2 s sep=⟨#[]⟩∧cut3 s sep=false:=Lib.cutB_miss s sep h
def whereP (x:Sch):Str:=if 0<x.wh.length then whrS++kBB (x.wh.map kAS) comS else ⟨#[]⟩
theorem textS_form (x:Sch):kC4 x=(parS++kBB (x.params.map kA9) comS)++(arrS++(kA9 x.result++whereP x)):=by
 unfold kC4 whereP headS whereS
 split
 · simp only [ByteArray.append_assoc];rfl
 · simp only [ByteArray.append_assoc,kFC];rfl
structure SchOk (x:Sch):Prop where
 ps:∀ t ∈ x.params,kAH t=true
 res:kAH x.result=true
 wh:∀ d ∈ x.wh,kAB d=true
theorem sch_ok {x:Sch} (h:kAI x=true):SchOk x:=by
 refine ⟨(kIK h).1,(kIK h).2,fun d hd=>?_⟩;unfold kAI at h;rw [zA,zA,zA,zA] at h;have h2:=h.2.2.2.2;rw [Bool.not_eq_true',List.any_eq_false] at h2;have:=h2 d hd
 simpa using this
theorem params_calm {x:Sch} (h:SchOk x):∀ y ∈ x.params.map kA9,Calm y∧y.toList.isEmpty=false:=fun y hy=>by
 obtain ⟨t,ht,rfl⟩:=List.mem_map.1 hy;exact ⟨textT_calm (h.ps t ht),textT_full (h.ps t ht)⟩
theorem wh_linC {x:Sch} (h:SchOk x):∀ y ∈ x.wh.map kAS,AllB noSep y∧y.toList.isEmpty=false:=fun y hy=>by
 obtain ⟨d,hd,rfl⟩:=List.mem_map.1 hy;exact ⟨(kIB (h.wh d hd)).mono fun c=>lin_noSep,printL_full (h.wh d hd)⟩
theorem head_plain {x:Sch} (h:SchOk x):AllB plainC (parS++kBB (x.params.map kA9) comS):=by
 refine AllB.app (AllB.of fun j hj=>by obtain rfl:j=0:=by (have:j<1:=hj;omega)
                                       decide) (AllB.join (AllB.of fun j hj=>?_) _ fun y hy=>?_)
 · have hj:j<2:=hj
   obtain rfl | rfl:j=0∨j=1:=by omega
   · decide
   · decide
 · obtain ⟨t,ht,rfl⟩:=List.mem_map.1 hy
   exact textT_plain (h.ps t ht)
theorem parts_text {x:Sch} (hv:kAI x=true):cut3 (kC4 x) arrS=true∧hasP (cut1 (kC4 x) arrS) parS=true∧kFR (kC4 x)=kBB (x.params.map kA9) comS∧(kFR (kC4 x)).toList.isEmpty=x.params.isEmpty ∧
 cut1 (cut2 (kC4 x) arrS) whrS=kA9 x.result∧cut3 (cut2 (kC4 x) arrS) whrS=decide (0<x.wh.length)∧cut2 (cut2 (kC4 x) arrS) whrS=kBB (x.wh.map kAS) comS:=by
 have h:=sch_ok hv;have hcut:=cut_hit (a:=parS++kBB (x.params.map kA9) comS) (sep:=arrS) (r:=kA9 x.result++whereP x) (head_no (c:=41) (t:=[32,45,62,32]) rfl fun j hj=>(head_plain h).ne (by decide) hj);rw [← textS_form] at hcut;obtain ⟨c1,c2,c3⟩:=hcut;have hh:kFR (kC4 x)=kBB (x.params.map kA9) comS:=by unfold kFR;rw [c1,cutP_app]
 refine ⟨c3,by rw [c1];exact hasP_app _ _,hh,?_,?_⟩
 · rw [hh,joinS_full (fun y hy=>(params_calm h y hy).2)]
   cases x.params <;> rfl
 · rw [c2]
   have hc:=textT_calm h.res;have hs:=textT_spaced h.res;unfold whereP;by_cases hw:0<x.wh.length
   · rw [if_pos hw,decide_eq_true hw]
     obtain ⟨d1,d2,d3⟩:=cut_hit (a:=kA9 x.result) (sep:=whrS) (r:=kBB (x.wh.map kAS) comS) (where_no hc hs);exact ⟨d1,d3,d2⟩
   · rw [if_neg hw,decide_eq_false hw,kFC]
     have e:x.wh=[]:=zL (by omega)
     have hn:Lib.indexB (kA9 x.result) whrS= -1:=Lib.index_none fun j _=>by
      cases ho:Lib.occAt (kA9 x.result).data.toList whrS.data.toList j with
      | false=>rfl
      | true =>
        have hj:=(occ_bt ho 0 (by decide)).1;have:=where_no (r:=⟨#[]⟩) hc hs j hj;rw [kFC,ho] at this;cases this
     obtain ⟨d1,d2,d3⟩:=cut_miss hn;exact ⟨d1,d3,by rw [d2,e];rfl⟩
theorem readS_back {x:Sch} (hv:kAI x=true):readS (kC4 x)=some x:=by
 have h:=sch_ok hv;obtain ⟨p1,p2,p3,p4,p5,p6,p7⟩:=parts_text hv
 have hps:kG0 (if (kFR (kC4 x)).toList.isEmpty then [] else kCQ (kFR (kC4 x))) []=some x.params:=by
  rw [p4,p3];cases hp:x.params with
  | nil=>rfl
  | cons t l =>
    have hpc:=params_calm h;rw [hp] at hpc
    show kG0 (if false=true then [] else kCQ (kBB (kA9 t :: l.map kA9) comS)) []=_
    rw [if_neg Bool.false_ne_true,params_back hpc];have:=listT_back (t :: l) [] (fun q hq=>h.ps q (by rw [hp];exact hq))
    rwa [List.nil_append] at this
 have hls:(if decide (0<x.wh.length)=true then kG1 (kBS (kBB (x.wh.map kAS) comS) comS) [] else some [])=some x.wh:=by
  cases hw:x.wh with
  | nil=>rfl
  | cons d l =>
    have hl:=wh_linC h;rw [hw] at hl;rw [if_pos (by rw [List.length_cons];exact decide_eq_true (by omega)),List.map_cons,split_join (c:=44) (t:=[32]) rfl _ _ (fun y hy j hj=>(hl y hy).1.ne (by decide) hj)];have:=listL_back (d :: l) [] (fun q hq=>h.wh q (by rw [hw];exact hq))
    rwa [List.nil_append] at this
 unfold readS;rw [p1,p2,hps,p5,(readT_back h.res).1,p6,p7,hls];exact okSch_self hv
theorem parF_le (s:Str):∀ k,k≤s.size→(parF s k).1≤s.size
 | 0,_=>Nat.zero_le _
 | k+1,h=>by
   unfold parF
   split
   · exact Nat.min_le_right _ _
   · exact parF_le s k (by omega)
theorem parF_len (s:Str):∀ k,(parF s k).2.length≤k
 | 0=>zR _
 | k+1=>by
   unfold parF;have:=parF_len s k
   split
   · rw [zP,List.length_singleton];omega
   · omega
theorem deepN_le (s:Str):∀ k:Nat,-(k:Int)≤kCK s k∧kCK s k≤k
 | 0=>by rw [show kCK s 0=0 from rfl];omega
 | k+1=>by
   have:=deepN_le s k;rw [kCP]
   split
   · omega
   · split <;> omega
theorem types_params (s:Str) (hs:s.size≤1000000) (w:World) :
 Calls Tryz.prog 43 #[.string s] w fun e w'=>(∃ v,e= .returned v∧Own RStr 9 (fun _=>False) w' w.heap.size v (kCQ s))∧Below w.heap.size w w':=by
 go_enter func43,ntmps43
 go_wp2_with fail
 go_loopw [3,4,5,9] (fun vo vd vf vi W=>∃ k:Nat,k≤s.size∧vi= .int .i64 k∧vd= .int .i64 (kCK s k)∧vf= .int .i64 ((parF s k).1:Nat)∧Hid (Own RStr 9 (fun _=>False) W w.heap.size vo (parF s k).2)∧Hid (Below w.heap.size w W)) (fun _ _ _ vi _=>s.size - (intOf vi).toNat)
 case atStart=>exact ⟨0,Nat.zero_le _,rfl,rfl,rfl,hJ (Own.nil _ _ _ _ _),hJ (zB _ _)⟩
 case round =>
  obtain ⟨k,hk,rfl,rfl,rfl,HO,HB⟩:=hrel;have hle:=parF_le s k hk;have hln:=parF_len s k;have hdp:=deepN_le s k;have hz:=HB.out.size;obtain ⟨va,vm,vc,rfl⟩:=HO.out.shape;by_cases hlt:k<s.size
  · have q1:decide ((k:Int)<(s.size:Int))=true:=decide_eq_true (by omega)
    have q1':decide (k<s.size)=true:=decide_eq_true hlt;have g0:=kD5 s k hlt;have HD:=hJ (kCP s k);have HP:Hid (parF s (k+1)=if bt s k=44∧kCK s k=0∧(parF s k).1≤k∧k+1<s.size then (min (k+2) s.size,(parF s k).2++[s.extract (parF s k).1 k]) else parF s k):=hJ rfl;generalize bt s k=c at *;generalize kCK s k=d at *;obtain ⟨p,hp⟩:∃ p,p=parF s k:=⟨_,rfl⟩
    rw [← hp] at HP HO hle hln ⊢;clear hp;obtain ⟨f,l⟩:=p
    change f≤s.size at hle
    change l.length≤k at hln
    have HO:Hid (Own RStr 9 (fun _=>False) wr w.heap.size (.slice va vm vc) l):=hJ HO.out;by_cases h91:c=91
    · subst h91
      have HN:Hid (kCK s (k+1)=d+1):=hJ (by rw [HD.out];rfl);have HQ:Hid (parF s (k+1)=(f,l)):=hJ (by rw [HP.out,if_neg (by rintro ⟨q,_⟩;cases q)]);clear HD HP
      go_wp2_with fail
      go_roundw
      case rel=>exact ⟨k+1,by omega,by go_num,by rw [HN.out],by rw [HQ.out],hJ (by rw [HQ.out];exact HO.out),HB⟩
      case measure=>simp [intOf];omega
    · by_cases h93:c=93
      · subst h93
        have HN:Hid (kCK s (k+1)=d - 1):=hJ (by rw [HD.out];rfl);have HQ:Hid (parF s (k+1)=(f,l)):=hJ (by rw [HP.out,if_neg (by rintro ⟨q,_⟩;cases q)]);clear HD HP
        go_wp2_with fail
        go_roundw
        case rel=>exact ⟨k+1,by omega,by go_num,by rw [HN.out],by rw [HQ.out],hJ (by rw [HQ.out];exact HO.out),HB⟩
        case measure=>simp [intOf];omega
      · have HN:Hid (kCK s (k+1)=d):=hJ (by rw [HD.out,if_neg (by simpa using h91),if_neg (by simpa using h93)])
        have e91:(c==91)=false:=beq_eq_false_iff_ne.2 h91;have e93:(c==93)=false:=beq_eq_false_iff_ne.2 h93;clear HD h91 h93;by_cases h44:c=44
        · subst h44
          by_cases hc:d=0∧f≤k∧k+1<s.size
          · obtain ⟨hd,hf,hk1⟩:=hc
            subst hd;have HQ:Hid (parF s (k+1)=(k+2,l++[s.extract f k])):=hJ (by rw [HP.out,if_pos ⟨rfl,rfl,hf,hk1⟩,Nat.min_eq_left (by omega)]);have q2:decide ((k:Int) ≥ (f:Int))=true:=decide_eq_true (by omega);have q3:decide ((k:Int)+1<(s.size:Int))=true:=decide_eq_true (by omega);have q2':decide (f≤k)=true:=decide_eq_true hf;have q4:¬ ((s.size:Int)<(k:Int)+2):=by omega
            clear HP
            go_wp2_with (at_builtin;refine kA1 kEO rfl _ _ rfl w.heap.size _ _ rfl (HO.out.alloc _) _ (s.extract f k) [.string (s.extract f k)] rfl rfl (kA3 9 (by (simp only [kAJ,kAF,Array.getElem?_push,Array.size_push];simp))) (by omega) (by unfold maxLen;omega) (by simp;omega) ?_;intro v9 w9 hown9 hb9 hk9;obtain ⟨a9,m9,c9,rfl⟩:=hown9.shape)
            go_roundw
            case rel=>exact ⟨k+1,by omega,by go_num,by rw [HN.out],by rw [HQ.out];go_num,hJ (by rw [HQ.out];exact hown9),hJ ((HB.out.alloc HB.out.size _).trans hb9)⟩
            case measure=>simp [intOf];omega
          · have HQ:Hid (parF s (k+1)=(f,l)):=hJ (by rw [HP.out,if_neg (fun q=>hc q.2)])
            clear HP;by_cases hd:d=0
            · by_cases hf:f≤k
              · have hk1:¬ k+1<s.size:=fun q=>hc ⟨hd,hf,q⟩
                have q2:decide ((k:Int) ≥ (f:Int))=true:=decide_eq_true (by omega);have q3:decide ((k:Int)+1<(s.size:Int))=false:=decide_eq_false (by omega);have q2':decide (f≤k)=true:=decide_eq_true hf;clear hc;subst hd
                go_wp2_with fail
                go_roundw
                case rel=>exact ⟨k+1,by omega,by go_num,by rw [HN.out],by rw [HQ.out],hJ (by rw [HQ.out];exact HO.out),HB⟩
                case measure=>simp [intOf];omega
              · have q2:decide ((k:Int) ≥ (f:Int))=false:=decide_eq_false (by omega)
                have q2':decide (f≤k)=false:=decide_eq_false hf;clear hc;subst hd
                go_wp2_with fail
                go_roundw
                case rel=>exact ⟨k+1,by omega,by go_num,by rw [HN.out],by rw [HQ.out],hJ (by rw [HQ.out];exact HO.out),HB⟩
                case measure=>simp [intOf];omega
            · have e0:(d==0)=false:=beq_eq_false_iff_ne.2 hd
              clear hc hd
              go_wp2_with fail
              go_roundw
              case rel=>exact ⟨k+1,by omega,by go_num,by rw [HN.out],by rw [HQ.out],hJ (by rw [HQ.out];exact HO.out),HB⟩
              case measure=>simp [intOf];omega
        · have e44:(c==44)=false:=beq_eq_false_iff_ne.2 h44
          have HQ:Hid (parF s (k+1)=(f,l)):=hJ (by rw [HP.out,if_neg (fun q=>h44 q.1)]);clear HP h44
          go_wp2_with fail
          go_roundw
          case rel=>exact ⟨k+1,by omega,by go_num,by rw [HN.out],by rw [HQ.out],hJ (by rw [HQ.out];exact HO.out),HB⟩
          case measure=>simp [intOf];omega
  · have hk2:k=s.size:=by omega
    subst hk2;have q1:decide ((s.size:Int)<(s.size:Int))=false:=decide_eq_false (by omega);have HM:Hid (kCQ s=(parF s s.size).2++[s.extract (parF s s.size).1 s.size]):=hJ rfl;generalize kCK s s.size=d at *;obtain ⟨p,hp⟩:∃ p,p=parF s s.size:=⟨_,rfl⟩
    rw [← hp] at HM HO hle hln ⊢;clear hp;obtain ⟨f,l⟩:=p
    change f≤s.size at hle
    change l.length≤s.size at hln
    have HO:Hid (Own RStr 9 (fun _=>False) wr w.heap.size (.slice va vm vc) l):=hJ HO.out;have HM:Hid (kCQ s=l++[s.extract f s.size]):=hJ HM.out;have q4:(min (f:Int) (s.size:Int)).toNat=f:=by omega
    go_wp2_with (at_builtin;refine kA1 kEO rfl _ _ rfl w.heap.size _ _ rfl (HO.out.alloc _) _ (s.extract f s.size) [.string (s.extract f s.size)] rfl rfl (kA3 9 (by (simp only [kAJ,kAF,Array.getElem?_push,Array.size_push];simp))) (by omega) (by unfold maxLen;omega) (by simp;omega) ?_;intro v9 w9 hown9 hb9 hk9;obtain ⟨a9,m9,c9,rfl⟩:=hown9.shape)
    go_ret;exact ⟨⟨_,rfl,by rw [HM.out];exact hown9⟩,(HB.out.alloc HB.out.size _).trans hb9⟩
def optS (o:Option Sch):Sch:=match o with
 | none=>kEQ
 | some x=>x
def TOk (y:Str):Prop:=y.size≤10000∧∀ x ∈ kBS (kBY (y.extract 0 (kD6 y))) comS,x.size≤900
def SOk (s:Str):Prop:=s.size≤1000000∧(∀ y ∈ kCQ (kFR s),TOk y)∧TOk (cut1 (cut2 s arrS) whrS)∧∀ y ∈ kBS (cut2 (cut2 s arrS) whrS) comS,y.size≤900
theorem kGI {s:Str} {t:Typ} (h:kGN s=some t) (hs:TOk s) (w:World) (E:EnvM w) :
 Calls Tryz.prog 44 #[.string s] w fun e w'=>(∃ ds,e= .returned (.tuple #[.agg ds.toArray,.int .i64 0])∧RTyp.rd (fun k=>w.heap.size≤k) w' ds t)∧Below w.heap.size w w':=by
 have:=types_Parse s hs.1 hs.2 w E;rw [h] at this;exact this
theorem kGJ {s:Str} (h:kGN s=none) (hs:TOk s) (w:World) (E:EnvM w) :
 Calls Tryz.prog 44 #[.string s] w fun e w'=>(∃ ds,e= .returned (.tuple #[.agg ds.toArray,.int .i64 6])∧RTyp.rd (fun k=>w.heap.size≤k) w' ds kB4)∧Below w.heap.size w w':=by
 have:=types_Parse s hs.1 hs.2 w E;rw [h] at this;exact this
theorem typT_sz {t:Typ} (h:kAH t=true):szT t:=by
 obtain ⟨h1,h2⟩:=kEJ h;exact ⟨zE (elemB_sz h1) (by decide),readH_sz (kHJ h2)⟩
theorem strings_cut (s p:Str) (hs:s.size≤1000000) (w:World) (E:EnvM w) :
 Calls Tryz.prog 41 #[.string s,.string p] w fun e w'=>e= .returned (.tuple #[.string (cut1 s p),.string (cut2 s p),.bool (cut3 s p)])∧Below w.heap.size w w':=by
 obtain ⟨m,hm⟩:=E.len;refine (Tryz.strings_Cut s p m w (Nat.lt_of_le_of_lt hs (by decide)) hm).mono ?_;rintro e w' ⟨he,n,rfl⟩;exact ⟨he,below_drewN (zB _ _) n⟩
theorem cut1_size (s p:Str):(cut1 s p).size≤s.size:=by
 rcases Lib.indexB_cases s p with h | ⟨i,h,hr⟩
 · rw [(cut_miss h).1];exact zR _
 · have:cut1 s p=s.extract 0 i:=(Lib.cutB_hit s p i h).1
   rw [this,ByteArray.size_extract];omega
theorem kI9 (s p:Str):(cut2 s p).size≤s.size:=by
 rcases Lib.indexB_cases s p with h | ⟨i,h,hr⟩
 · rw [(cut_miss h).2.1];exact Nat.zero_le _
 · have:cut2 s p=s.extract (i+p.size) s.size:=(Lib.cutB_hit s p i h).2.1
   rw [this,ByteArray.size_extract];omega
theorem strings_split (s p:Str) (hs:s.size≤1000000) (hp:1≤p.size) (w:World) (E:EnvM w) :
 Calls Tryz.prog 45 #[.string s,.string p] w fun e w'=>e= .returned (.slice (some ⟨w.heap.size,0,none⟩) (kBS s p).length (kBS s p).length)∧w'=w.alloc (.cells ((kBS s p).map Value.string).toArray 9):=by
 obtain ⟨m,hm⟩:=E.len;have hlen:(kBS s p).length=Lib.countB s p+1:=Lib.splitB_all p hp 0 _ _ rfl;rw [hlen];exact Tryz.strings_Split s p m w (Nat.lt_of_le_of_lt hs (by decide)) hm hp
theorem splitS_len (s p:Str):(kBS s p).length≤s.size+2:=by
 have:=Lib.splitB_length_le p 0 (Lib.countB s p) s;have h2:=Lib.count_le s.data.toList p.data.toList;have e:s.data.toList.length=s.size:=by rw [Array.length_toList];rfl
 unfold kBS;rw [e] at h2;have:Lib.countB s p=Lib.count s.data.toList p.data.toList:=rfl;omega
theorem listT_cons (x:Str) (l:List Str) (acc:List Typ):kG0 (x :: l) acc=match kGN x with | none=>none | some t=>kG0 l (acc++[t]):=rfl
theorem listL_cons (x:Str) (l:List Str) (acc:List Lin):kG1 (x :: l) acc=if lossE (kB9 (kBU x) x)=0 then kG1 l (acc++[lossX (kB9 (kBU x) x)]) else none:=rfl
theorem cutP_size (s p:Str):(cutP s p).size≤s.size:=by
 unfold cutP Lib.trimPrefix
 show (if _ then _ else _:List UInt8).toArray.size≤_
 rw [List.size_toArray]
 split
 · rw [List.length_drop,Array.length_toList];show s.size - _≤_;omega
 · rw [Array.length_toList];exact zR _
theorem parF_sz (s:Str):(kCQ s).length≤s.size+1∧0<(kCQ s).length:=by
 have:=parF_len s s.size;unfold kCQ;rw [zP,List.length_singleton];omega
theorem types_ParseScheme (s:Str) (hs:SOk s) (w:World) (E:EnvM w) :
 Calls Tryz.prog 13 #[.string s] w fun e w'=>(∃ ds,e= .returned (.tuple #[.agg ds.toArray,.int .i64 (optE (readS s))])∧RSch.rd (fun k=>w.heap.size≤k) w' ds (optS (readS s)))∧Below w.heap.size w w':=by
 have HE:=hJ E;have h8:8≤w.heap.size:=E.env.big;obtain ⟨hsz,hk1,hk2,hk3⟩:=hs;have HR:Hid (readS s=if cut3 s arrS && hasP (cut1 s arrS) parS then (match kG0 (if (kFR s).toList.isEmpty then [] else kCQ (kFR s)) [] with | none=>none | some ps=>match kGN (cut1 (cut2 s arrS) whrS) with | none=>none | some t=>match (if cut3 (cut2 s arrS) whrS then kG1 (kBS (cut2 (cut2 s arrS) whrS) comS) [] else some []) with | none=>none | some ls=>okSch s ⟨ps,t,ls⟩) else none):=hJ rfl;have HC1:=hJ (fun W E=>strings_cut s arrS hsz W E);have HC2:=fun W=>Tryz.strings_CutPrefix (cut1 s arrS) ⟨#[40]⟩ W
 change ∀ W,Calls _ _ _ W fun e w'=>e= .returned (.tuple #[.string (kFR s),.bool (hasP (cut1 s arrS) parS)])∧_ at HC2
 replace HC2:=hJ HC2;have h1z:=cut1_size s arrS;have h2z:=kI9 s arrS;have HC3:=hJ (fun W E=>strings_cut (cut2 s arrS) whrS (zE h2z hsz) W E);have h3z:=kI9 (cut2 s arrS) whrS;have hhz:(kFR s).size≤s.size:=zE (cutP_size _ _) h1z;have HCS:=hJ (fun W E=>strings_split (cut2 (cut2 s arrS) whrS) comS (zE h3z (zE h2z hsz)) (by decide) W E);have HSL:Hid ((kBS (cut2 (cut2 s arrS) whrS) comS).length≤1000002):=hJ (by have:=splitS_len (cut2 (cut2 s arrS) whrS) comS;omega);have HK1:=hJ hk1;have HK2:=hJ hk2;have HK3:=hJ hk3;have HPL:=parF_sz (kFR s);have HCP:=hJ (fun W=>types_params (kFR s) (zE hhz hsz) W);clear E hk1 hk2 hk3 h1z h2z h3z;generalize readS s=res at *;have HRb:=hJ (Bx.fresh w 29 [.slice none 0 0,.string ⟨#[]⟩,.string ⟨#[]⟩,.slice none 0 0,.slice none 0 0]);have HB0:=hJ ((zB _ w).alloc (zR _) (.cells #[.slice none 0 0,.string ⟨#[]⟩,.string ⟨#[]⟩,.slice none 0 0,.slice none 0 0] 29));go_enter func13,ntmps13
 go_wp2_with fail
 have HE0:=hJ (HE.out.keep HB0.out h8);generalize w.alloc (.cells #[.slice none 0 0,.string ⟨#[]⟩,.string ⟨#[]⟩,.slice none 0 0,.slice none 0 0] 29)=W0 at *;refine (HC1.out _ HE0.out).mono ?_;rintro e W1 ⟨rfl,hb1⟩;have HRs:=hJ (HRb.out.below hb1 HRb.out.lt);have HBl:=hJ (HB0.out.trans (hb1.mono HB0.out.size));clear HC1 HRb HB0 HE0 hb1
 go_wp2_with fail
 refine (HC2.out _).mono ?_;rintro e W9 ⟨rfl,rfl⟩;clear HC2;by_cases hok:(cut3 s arrS && hasP (cut1 s arrS) parS)=true
 · replace HR:Hid (res=match kG0 (if (kFR s).toList.isEmpty then [] else kCQ (kFR s)) [] with | none=>none | some ps=>match kGN (cut1 (cut2 s arrS) whrS) with | none=>none | some t=>match (if cut3 (cut2 s arrS) whrS then kG1 (kBS (cut2 (cut2 s arrS) whrS) comS) [] else some []) with | none=>none | some ls=>okSch s ⟨ps,t,ls⟩):=hJ (by rw [HR.out,if_pos hok])
   obtain ⟨ok1,ok2⟩:cut3 s arrS=true∧hasP (cut1 s arrS) parS=true:=by simpa using hok
   rw [ok1,ok2];generalize cut1 (cut2 s arrS) whrS=rt at *;generalize cut3 (cut2 s arrS) whrS=sm at *;generalize kBS (cut2 (cut2 s arrS) whrS) comS=L2 at *;generalize cut2 (cut2 s arrS) whrS=wh at *;generalize cut2 s arrS=rs at *;generalize cut1 s arrS=hd0 at *;generalize kCQ (kFR s)=L at *;generalize kFR s=hd at *;clear hok ok1 ok2;have HBX:=hJ (Bx.fresh W9 29 [.slice none 0 0,.string ⟨#[]⟩,.string ⟨#[]⟩,.slice none 0 0,.slice none 0 0]);have hgw:w.heap.size<W9.heap.size:=HRs.out.lt;replace HRs:=hJ (HRs.out.alloc (.cells #[.slice none 0 0,.string ⟨#[]⟩,.string ⟨#[]⟩,.slice none 0 0,.slice none 0 0] 29));replace HBl:=hJ (HBl.out.alloc (by omega) (.cells #[.slice none 0 0,.string ⟨#[]⟩,.string ⟨#[]⟩,.slice none 0 0,.slice none 0 0] 29))
   go_upto_if 43 with fail
   generalize hg:W9.heap.size=g at *;generalize W9.alloc (.cells #[.slice none 0 0,.string ⟨#[]⟩,.string ⟨#[]⟩,.slice none 0 0,.slice none 0 0] 29)=W at *;clear hg W9
   go_cut [4] (fun v4 W2=>∃ (ps:List Typ) (va:Option Addr) (vm vc B:Nat),v4= .string hd∧g<B∧B≤W2.heap.size∧ps.length≤s.size+1∧Hid (kG0 (if hd.toList.isEmpty then [] else L) []=some ps)∧Hid (∀ t ∈ ps,kAH t=true)∧Hid (Bx W2 g 29 [.slice va vm vc,.string ⟨#[]⟩,.string ⟨#[]⟩,.slice none 0 0,.slice none 0 0])∧Hid (Own RTyp 27 (fun q=>B≤q) W2 B (.slice va vm vc) ps)∧Hid (Bx W2 w.heap.size 29 [.slice none 0 0,.string ⟨#[]⟩,.string ⟨#[]⟩,.slice none 0 0,.slice none 0 0])∧Hid (Below w.heap.size w W2))
   case first =>
    cases hem:hd.toList.isEmpty with
    | true =>
      go_wp2_with fail
      go_meet
      exact ⟨[],none,0,0,W.heap.size,rfl,HBX.out.lt,zR _,Nat.zero_le _,hJ (by rw [hem];rfl),hJ (fun t ht=>by cases ht),HBX,hJ (Own.nil _ _ _ _ _),HRs,HBl⟩
    | false =>
      have hgW:=HBX.out.lt
      go_wp2_with fail
      refine (HCP.out _).mono ?_;rintro e W5 ⟨⟨v5,rfl,hown5⟩,hb5⟩;obtain ⟨gL,cL,rfl,hgL,hgL2,hsl5,hfz5⟩:=hown5.open_ HPL.2
      have HG5:Hid (∀ k,k<L.length→W5.cell? ⟨gL,k,none⟩=some (.string (L.getD k default))):=hJ (fun k hk=>by
       obtain ⟨cs,hr,hc⟩:=hsl5.cells k (L.getD k default) (getD_at hk);obtain rfl:cs=[.string (L.getD k default)]:=hr;have:=hc 0 _ rfl
       rwa [show RStr.size=1 from rfl,Nat.mul_one,Nat.add_zero,Nat.zero_add] at this)
      replace HBX:=hJ (HBX.out.below hb5 HBX.out.lt);replace HRs:=hJ (HRs.out.below hb5 HRs.out.lt);replace HBl:=hJ (HBl.out.trans (hb5.mono HBl.out.size));have hg5:=HBX.out.lt;have hL1:=HPL.1;obtain ⟨tot,hto⟩:∃ tot,tot=kG0 L []:=⟨_,rfl⟩
      have HR2:Hid (tot=none→res=none):=hJ (fun h=>by rw [HR.out,hem,if_neg Bool.false_ne_true,← hto,h]);have HTo:=hJ hto.symm;have HTo0:=HTo;clear hto hown5 hsl5 hb5 HCP HC3 HCS
      go_wp2_with fail
      go_loopw [47] (fun i wr=>∃ (k:Nat) (ps:List Typ) (va:Option Addr) (vm vc:Nat),k≤L.length∧i= .int .i64 k∧ps.length≤k∧W5.heap.size≤wr.heap.size∧Hid (kG0 (L.drop k) ps=tot)∧Hid (∀ t ∈ ps,kAH t=true)∧Hid (wr.heap[gL]? =W5.heap[gL]?)∧Hid (Bx wr g 29 [.slice va vm vc,.string ⟨#[]⟩,.string ⟨#[]⟩,.slice none 0 0,.slice none 0 0])∧Hid (Own RTyp 27 (fun q=>W5.heap.size≤q) wr W5.heap.size (.slice va vm vc) ps)∧Hid (Bx wr w.heap.size 29 [.slice none 0 0,.string ⟨#[]⟩,.string ⟨#[]⟩,.slice none 0 0,.slice none 0 0])∧Hid (Below w.heap.size w wr)) (fun i _=>L.length - (intOf i).toNat)
      case atStart=>exact ⟨0,[],none,0,0,Nat.zero_le _,rfl,zR _,zR _,HTo,hJ (fun t ht=>by cases ht),hJ rfl,HBX,hJ (Own.nil _ _ _ _ _),HRs,HBl⟩
      case round =>
       clear HBX HRs HBl HTo;obtain ⟨k,ps,va,vm,vc,hk,rfl,hpl,hwz,HRun,HV,HGb,HBX,HOwn,HRs,HBl⟩:=hrel;by_cases hlt:k<L.length
       · have y0:wr.cell? ⟨gL,k,none⟩=some (.string (L.getD k default)):=by rw [World.cell?_of_block (w:=W5) HGb.out];exact HG5.out k hlt
         have hxm:=kAM hlt;have HTx:=hJ (HK1.out _ hxm);have HDr:Hid (L.drop k=L.getD k default :: L.drop (k+1)):=hJ (drop_at hlt);replace HRun:Hid ((match kGN (L.getD k default) with | none=>none | some t=>kG0 (L.drop (k+1)) (ps++[t]))=tot):=hJ (by rw [← HRun.out,HDr.out,listT_cons]);have HEr:=hJ (HE.out.keep HBl.out h8);clear HDr hxm;generalize L.getD k default=x at *;cases hrx:kGN x with
         | none =>
           have HC:=hJ (kGJ hrx HTx.out wr HEr.out);have HF:Hid (res=none):=hJ (HR2.out (by rw [← HRun.out,hrx]));clear HRun hrx
           go_wp2_with fail
           refine HC.out.mono ?_;rintro e w4 ⟨⟨ds,rfl,ty,rfl,⟨ay,cy,rfl,hy⟩⟩,hb4⟩;have hz4:=hb4.size;have HT:=hJ (Bx.fresh w4 27 [.string (kB4).elem,.string (kB4).shape.row,.slice ay (kB4).shape.dims.length cy]);have t0:=HT.out.cell 0 _ rfl;have t1:=HT.out.cell 1 _ rfl;have t2:=HT.out.cell 2 _ rfl;have HY:=hJ (hy.below ((zB _ _).alloc (zR _) (.cells #[.string (kB4).elem,.string (kB4).shape.row,.slice ay (kB4).shape.dims.length cy] 27)));have HB5:=hJ (hb4.alloc hz4 (.cells #[.string (kB4).elem,.string (kB4).shape.row,.slice ay (kB4).shape.dims.length cy] 27));have HOld:=HOwn;replace HBX:=hJ (HBX.out.below HB5.out HBX.out.lt);replace HOwn:=hJ (HOwn.out.below HB5.out);replace HRs:=hJ (HRs.out.below HB5.out HRs.out.lt);replace HBl:=hJ (HBl.out.trans (HB5.out.mono HBl.out.size));replace HGb:=hJ ((HB5.out.block gL (by omega)).trans HGb.out);clear hb4 hy HC y0;have z0:=HRs.out.cell 0 _ rfl;have z1:=HRs.out.cell 1 _ rfl;have z2:=HRs.out.cell 2 _ rfl;have z3:=HRs.out.cell 3 _ rfl;have z4:=HRs.out.cell 4 _ rfl;have f0:=HRs.out.fz 0;have f1:=HRs.out.fz 1;have f2:=HRs.out.fz 2;have f3:=HRs.out.fz 3;have f4:=HRs.out.fz 4;have hl0:=HRs.out.lt;have HZz:=hJ (((((HRs.out.set 0 (.slice none 0 0)).set 1 (.string ⟨#[]⟩)).set 2 (.string ⟨#[]⟩)).set 3 (.slice none 0 0)).set 4 (.slice none 0 0));have s0:=HZz.out.cell 0 _ rfl;have s1:=HZz.out.cell 1 _ rfl;have s2:=HZz.out.cell 2 _ rfl;have s3:=HZz.out.cell 3 _ rfl;have s4:=HZz.out.cell 4 _ rfl
           go_upto_region 12 with fail
           (try simp only []);repeat (first | go_values | go_skip | go_guarded | go_step | go_upon)
           refine bodyPost_ret (v:=.tuple #[.agg #[.slice none 0 0,.string ⟨#[]⟩,.string ⟨#[]⟩,.slice none 0 0,.slice none 0 0],.int .i64 6]) (by simp [results,results13,go_sem,s0,s1,s2,s3,s4,hl0]) rfl ?_;have HFr:Hid (∀ W,RSch.rd (fun k=>w.heap.size≤k) W [.slice none 0 0,.string ⟨#[]⟩,.string ⟨#[]⟩,.slice none 0 0,.slice none 0 0] (optS res)):=hJ (fun W=>by rw [HF.out];exact ⟨_,_,_,rfl,⟨none,0,rfl,Sl.empty RTyp _ _⟩,⟨none,0,rfl,Sl.empty RLin _ _⟩,⟨none,0,rfl,Sl.empty RLin _ _⟩⟩);exact ⟨⟨_,by rw [HF.out];rfl,HFr.out _⟩,((((HBl.out.setCell (zR _) _).setCell (zR _) _).setCell (zR _) _).setCell (zR _) _).setCell (zR _) _⟩
         | some t =>
           have HC:=hJ (kGI hrx HTx.out wr HEr.out);have HNx:Hid (kG0 (L.drop (k+1)) (ps++[t])=tot):=hJ (by rw [← HRun.out,hrx]);have hvt:=(readK_sound hrx).1;clear HRun hrx
           go_wp2_with fail
           refine HC.out.mono ?_;rintro e w4 ⟨⟨ds,rfl,ty,rfl,⟨ay,cy,rfl,hy⟩⟩,hb4⟩;have hz4:=hb4.size;have HT:=hJ (Bx.fresh w4 27 [.string (t).elem,.string (t).shape.row,.slice ay (t).shape.dims.length cy]);have t0:=HT.out.cell 0 _ rfl;have t1:=HT.out.cell 1 _ rfl;have t2:=HT.out.cell 2 _ rfl;have HY:=hJ (hy.below ((zB _ _).alloc (zR _) (.cells #[.string (t).elem,.string (t).shape.row,.slice ay (t).shape.dims.length cy] 27)));have HB5:=hJ (hb4.alloc hz4 (.cells #[.string (t).elem,.string (t).shape.row,.slice ay (t).shape.dims.length cy] 27));have HOld:=HOwn;replace HBX:=hJ (HBX.out.below HB5.out HBX.out.lt);replace HOwn:=hJ (HOwn.out.below HB5.out);replace HRs:=hJ (HRs.out.below HB5.out HRs.out.lt);replace HBl:=hJ (HBl.out.trans (HB5.out.mono HBl.out.size));replace HGb:=hJ ((HB5.out.block gL (by omega)).trans HGb.out);clear hb4 hy HC y0;have v0:=HBX.out.cell 0 _ rfl;have fv0:=HBX.out.fz 0
           go_wp2_with (at_builtin;refine kA1 kG7 rfl _ _ rfl W5.heap.size _ _ rfl (HOwn.out.alloc _) _ t [.string t.elem,.string t.shape.row,.slice ay t.shape.dims.length cy] rfl ⟨_,rfl,ay,cy,rfl,(HY.out.below ((zB _ _).alloc (zR _) _)).mono (fun q hq _=>⟨by omega,fun e=>by have:=(HOld.out.block e).2;omega⟩)⟩ (kA3 27 (by (simp only [kAJ,kAF,Array.getElem?_push,Array.size_push];simp))) (by omega) (by unfold maxLen;omega) (by simp;omega) ?_;intro v9 w9 hown9 hb9 hk9;obtain ⟨a9,m9,c9,rfl⟩:=hown9.shape;have HX9:=hJ ((HBX.out.alloc _).kp hk9 (HOwn.out.ne (by omega)));have HR9:=hJ ((HRs.out.alloc _).kp hk9 (HOwn.out.ne (by omega)));have z9:=HX9.out.cell 0 _ rfl;have f9:=HX9.out.fz 0;have HG9:Hid (w9.heap[gL]? =W5.heap[gL]?):=hJ ((hk9.block gL (by simp;omega) (HOwn.out.ne (by omega))).trans (((zB _ _).alloc (zR _) _).block gL (by simp;omega) |>.trans HGb.out));have hz9:=hb9.size)
           go_roundw
           case rel=>exact ⟨k+1,ps++[t],a9,m9,c9,by omega,by go_num,by rw [zP];show ps.length+1≤_;omega,by have:=hz9;simp at this ⊢;omega,HNx,hJ (fun d hd=>(List.mem_append.mp hd).elim (HV.out d) (fun q=>by rw [List.mem_singleton.mp q];exact hvt)),hJ ((kAA (a:=⟨g,0,none⟩) (by show g≠gL;omega)).trans HG9.out),hJ (HX9.out.set 0 _),hJ (hown9.set _ (fun q hq=>by show q≠g;omega) (by show g<_;omega)),hJ (HR9.out.other (by show g≠_;omega)),hJ (((HBl.out.alloc HBl.out.size _).trans (hb9.mono (by omega))).setCell (by show _≤g;omega) _)⟩
           case measure=>simp [intOf];omega
       · have hke:k=L.length:=by omega
         have HPs:Hid (kG0 L []=some ps):=hJ (by rw [HTo0.out,← HRun.out,List.drop_of_length_le (by omega)];rfl)
         go_wp2_with fail
         go_meet
         exact ⟨ps,va,vm,vc,W5.heap.size,rfl,hg5,hwz,by omega,hJ (by rw [hem,if_neg Bool.false_ne_true];exact HPs.out),HV,HBX,HOwn,HRs,HBl⟩
   case rest =>
    obtain ⟨ps,pa,vm,pc,B,rfl,hgB,hBW,hpl,HPs,HVp,HBX,HOwn,HRs,HBl⟩:=hcut;generalize hwc:wc=W2 at *;clear hwc;replace HR:Hid (res=match kGN rt with | none=>none | some t=>match (if sm then kG1 L2 [] else some []) with | none=>none | some ls=>okSch s ⟨ps,t,ls⟩):=hJ (by rw [HR.out,HPs.out]);obtain ⟨a9,c9,e9,hsl⟩:=HOwn.out.sl;rw [Value.slice.injEq] at e9;obtain ⟨rfl,rfl,rfl⟩:=e9;have HSp:=hJ (hsl.mono (S':=fun q=>g<q) (fun q hq _=>by rcases hq with q | q <;> omega));have HEw:=hJ (HE.out.keep HBl.out h8);clear HOwn hsl HPs HK1 HCP
    go_wp2_with fail
    refine (HC3.out _ HEw.out).mono ?_;rintro e W3 ⟨rfl,hb3⟩;replace HBX:=hJ (HBX.out.below hb3 HBX.out.lt);replace HRs:=hJ (HRs.out.below hb3 HRs.out.lt);replace HBl:=hJ (HBl.out.trans (hb3.mono HBl.out.size));replace HSp:=hJ (HSp.out.below hb3);replace HEw:=hJ (HE.out.keep HBl.out h8);have hg3:=HBX.out.lt;have hz3:=HBl.out.size;clear HC3 hb3;cases hrt:kGN rt with
    | none =>
      have HC:=hJ (fun W E=>kGJ hrt HK2.out W E);have HF:Hid (res=none):=hJ (by rw [HR.out,hrt]);clear HR hrt HCS
      go_wp2_with fail
      refine (HC.out _ HEw.out).mono ?_;rintro e w4 ⟨⟨ds,rfl,ty,rfl,⟨ay,cy,rfl,hy⟩⟩,hb4⟩;have hz4:=hb4.size;have HT:=hJ (Bx.fresh w4 27 [.string (kB4).elem,.string (kB4).shape.row,.slice ay (kB4).shape.dims.length cy]);have t0:=HT.out.cell 0 _ rfl;have t1:=HT.out.cell 1 _ rfl;have t2:=HT.out.cell 2 _ rfl;have HY:=hJ (hy.below ((zB _ _).alloc (zR _) (.cells #[.string (kB4).elem,.string (kB4).shape.row,.slice ay (kB4).shape.dims.length cy] 27)));have HB5:=hJ (hb4.alloc hz4 (.cells #[.string (kB4).elem,.string (kB4).shape.row,.slice ay (kB4).shape.dims.length cy] 27));replace HBX:=hJ (HBX.out.below HB5.out HBX.out.lt);replace HRs:=hJ (HRs.out.below HB5.out HRs.out.lt);replace HBl:=hJ (HBl.out.trans (HB5.out.mono HBl.out.size));replace HSp:=hJ (HSp.out.below HB5.out);clear hb4 hy HC HEw;clear HY HSp HT t0 t1 t2;have z0:=HRs.out.cell 0 _ rfl;have z1:=HRs.out.cell 1 _ rfl;have z2:=HRs.out.cell 2 _ rfl;have z3:=HRs.out.cell 3 _ rfl;have z4:=HRs.out.cell 4 _ rfl;have f0:=HRs.out.fz 0;have f1:=HRs.out.fz 1;have f2:=HRs.out.fz 2;have f3:=HRs.out.fz 3;have f4:=HRs.out.fz 4;have hl0:=HRs.out.lt;have HZz:=hJ (((((HRs.out.set 0 (.slice none 0 0)).set 1 (.string ⟨#[]⟩)).set 2 (.string ⟨#[]⟩)).set 3 (.slice none 0 0)).set 4 (.slice none 0 0));have s0:=HZz.out.cell 0 _ rfl;have s1:=HZz.out.cell 1 _ rfl;have s2:=HZz.out.cell 2 _ rfl;have s3:=HZz.out.cell 3 _ rfl;have s4:=HZz.out.cell 4 _ rfl
      go_upto_region 18 with fail
      (try simp only []);repeat (first | go_values | go_skip | go_guarded | go_step | go_upon)
      refine bodyPost_ret (v:=.tuple #[.agg #[.slice none 0 0,.string ⟨#[]⟩,.string ⟨#[]⟩,.slice none 0 0,.slice none 0 0],.int .i64 6]) (by simp [results,results13,go_sem,s0,s1,s2,s3,s4,hl0]) rfl ?_;have HFr:Hid (∀ W,RSch.rd (fun k=>w.heap.size≤k) W [.slice none 0 0,.string ⟨#[]⟩,.string ⟨#[]⟩,.slice none 0 0,.slice none 0 0] (optS res)):=hJ (fun W=>by rw [HF.out];exact ⟨_,_,_,rfl,⟨none,0,rfl,Sl.empty RTyp _ _⟩,⟨none,0,rfl,Sl.empty RLin _ _⟩,⟨none,0,rfl,Sl.empty RLin _ _⟩⟩);exact ⟨⟨_,by rw [HF.out];rfl,HFr.out _⟩,((((HBl.out.setCell (zR _) _).setCell (zR _) _).setCell (zR _) _).setCell (zR _) _).setCell (zR _) _⟩
    | some t =>
      have HC:=hJ (fun W E=>kGI hrt HK2.out W E);replace HR:Hid (res=match (if sm then kG1 L2 [] else some []) with | none=>none | some ls=>okSch s ⟨ps,t,ls⟩):=hJ (by rw [HR.out,hrt]);have hvt:=(readK_sound hrt).1;clear hrt
      go_wp2_with fail
      refine (HC.out _ HEw.out).mono ?_;rintro e w4 ⟨⟨ds,rfl,ty,rfl,⟨ay,cy,rfl,hy⟩⟩,hb4⟩;have hz4:=hb4.size;have HT:=hJ (Bx.fresh w4 27 [.string (t).elem,.string (t).shape.row,.slice ay (t).shape.dims.length cy]);have t0:=HT.out.cell 0 _ rfl;have t1:=HT.out.cell 1 _ rfl;have t2:=HT.out.cell 2 _ rfl;have HY:=hJ (hy.below ((zB _ _).alloc (zR _) (.cells #[.string (t).elem,.string (t).shape.row,.slice ay (t).shape.dims.length cy] 27)));have HB5:=hJ (hb4.alloc hz4 (.cells #[.string (t).elem,.string (t).shape.row,.slice ay (t).shape.dims.length cy] 27));replace HBX:=hJ (HBX.out.below HB5.out HBX.out.lt);replace HRs:=hJ (HRs.out.below HB5.out HRs.out.lt);replace HBl:=hJ (HBl.out.trans (HB5.out.mono HBl.out.size));replace HSp:=hJ (HSp.out.below HB5.out);clear hb4 hy HC HEw;have v1:=HBX.out.cell 1 _ rfl;have v2:=HBX.out.cell 2 _ rfl;have v3:=HBX.out.cell 3 _ rfl;have f1:=HBX.out.fz 1;have f2:=HBX.out.fz 2;have f3:=HBX.out.fz 3;have hlo:=HBX.out.lt
      go_upto_if 82 with fail
      have hne:g≠w.heap.size:=by omega
      replace HBX:=hJ (((HBX.out.set 1 (.string t.elem)).set 2 (.string t.shape.row)).set 3 (.slice ay t.shape.dims.length cy));replace HRs:=hJ (((HRs.out.other (a:=⟨g,1,none⟩) (u:=.string t.elem) hne).other (a:=⟨g,2,none⟩) (u:=.string t.shape.row) hne).other (a:=⟨g,3,none⟩) (u:=.slice ay t.shape.dims.length cy) hne);replace HBl:=hJ (((HBl.out.setCell (show w.heap.size≤(⟨g,1,none⟩:Addr).block from Nat.le_of_lt hgw) (.string t.elem)).setCell (show w.heap.size≤(⟨g,2,none⟩:Addr).block from Nat.le_of_lt hgw) (.string t.shape.row)).setCell (show w.heap.size≤(⟨g,3,none⟩:Addr).block from Nat.le_of_lt hgw) (.slice ay t.shape.dims.length cy));replace HY:=hJ (((HY.out.frame (w':=World.setCell _ ⟨g,1,none⟩ (.string t.elem)) (fun k hk _=>kAA (by show g≠k;omega))).frame (w':=World.setCell _ ⟨g,2,none⟩ (.string t.shape.row)) (fun k hk _=>kAA (by show g≠k;omega))).frame (w':=World.setCell _ ⟨g,3,none⟩ (.slice ay t.shape.dims.length cy)) (fun k hk _=>kAA (by show g≠k;omega)));replace HSp:=hJ (((HSp.out.frame (w':=World.setCell _ ⟨g,1,none⟩ (.string t.elem)) (fun k hk _=>kAA (by show g≠k;omega))).frame (w':=World.setCell _ ⟨g,2,none⟩ (.string t.shape.row)) (fun k hk _=>kAA (by show g≠k;omega))).frame (w':=World.setCell _ ⟨g,3,none⟩ (.slice ay t.shape.dims.length cy)) (fun k hk _=>kAA (by show g≠k;omega)));replace HY:=hJ (HY.out.mono (S':=fun q=>g<q) (fun q hq _=>by omega));clear t0 t1 t2 HT v1 v2 v3 f1 f2 f3 HB5 hlo;generalize (((w4.alloc (.cells #[.string t.elem,.string t.shape.row,.slice ay t.shape.dims.length cy] 27)).setCell ⟨g,1,none⟩ (.string t.elem)).setCell ⟨g,2,none⟩ (.string t.shape.row)).setCell ⟨g,3,none⟩ (.slice ay t.shape.dims.length cy)=W6 at *
      go_cut [15] (fun v15 W=>∃ (ls:List Lin) (qa:Option Addr) (qc:Nat),v15= .bool sm∧Hid ((if sm then kG1 L2 [] else some [])=some ls)∧Hid (∀ d ∈ ls,kAB d=true)∧Hid (Bx W g 29 [.slice pa ps.length pc,.string t.elem,.string t.shape.row,.slice ay t.shape.dims.length cy,.slice qa ls.length qc])∧Hid (Sl RTyp (fun q=>g<q) W pa ps.length pc ps)∧Hid (Sl RLin (fun q=>g<q) W ay t.shape.dims.length cy t.shape.dims)∧Hid (Sl RLin (fun q=>g<q) W qa ls.length qc ls)∧Hid (Bx W w.heap.size 29 [.slice none 0 0,.string ⟨#[]⟩,.string ⟨#[]⟩,.slice none 0 0,.slice none 0 0])∧Hid (Below w.heap.size w W))
      case first =>
       have hgW:=HBX.out.lt;cases sm with
       | false =>
         go_wp2_with fail
         go_meet
         exact ⟨[],none,0,rfl,hJ rfl,hJ (fun d hd=>by cases hd),HBX,HSp,HY,hJ (Sl.empty RLin _ _),HRs,HBl⟩
       | true =>
         have hL2:=HSL.out;have HEw:=hJ (HE.out.keep HBl.out h8);replace HBX:=hJ (HBX.out.alloc (.cells (L2.map Value.string).toArray 9));replace HRs:=hJ (HRs.out.alloc (.cells (L2.map Value.string).toArray 9));have HLt:=hJ (Bx.fresh W6 9 (L2.map Value.string));have hb7:=(zB W6.heap.size W6).alloc (zR _) (.cells (L2.map Value.string).toArray 9);have hz6:w.heap.size≤W6.heap.size:=HBl.out.size;replace HBl:=hJ (HBl.out.alloc hz6 (.cells (L2.map Value.string).toArray 9));replace HSp:=hJ ((HSp.out.below hb7).mono (S':=fun q=>g<q∧q<(W6.alloc (.cells (L2.map Value.string).toArray 9)).heap.size) (fun q hq hl=>⟨hq,hl⟩));replace HY:=hJ ((HY.out.below hb7).mono (S':=fun q=>g<q∧q<(W6.alloc (.cells (L2.map Value.string).toArray 9)).heap.size) (fun q hq hl=>⟨hq,hl⟩));have hz7:=HLt.out.lt;obtain ⟨tot,hto⟩:∃ tot,tot=kG1 L2 []:=⟨_,rfl⟩
         have HR2:Hid (tot=none→res=none):=hJ (fun h=>by rw [HR.out,if_pos rfl,← hto,h]);have HTo:=hJ hto.symm;have HTo0:=HTo;clear hto hb7
         go_wp2_with fail
         refine (HCS.out _ HEw.out).mono ?_;rintro e W0' ⟨rfl,rfl⟩;clear HCS HEw
         go_wp2_with fail
         generalize W6.alloc (.cells (L2.map Value.string).toArray 9)=W7 at *
         go_loopw [86] (fun i wr=>∃ (k:Nat) (ls:List Lin) (qa:Option Addr) (qm qc:Nat),k≤L2.length∧i= .int .i64 k∧ls.length≤k∧W7.heap.size≤wr.heap.size∧Hid (kG1 (L2.drop k) ls=tot)∧Hid (∀ d ∈ ls,kAB d=true)∧Hid (Bx wr W6.heap.size 9 (L2.map Value.string))∧Hid (Bx wr g 29 [.slice pa ps.length pc,.string t.elem,.string t.shape.row,.slice ay t.shape.dims.length cy,.slice qa qm qc])∧Hid (Own RLin 40 (fun q=>W7.heap.size≤q) wr W7.heap.size (.slice qa qm qc) ls)∧Hid (Sl RTyp (fun q=>g<q∧q<W7.heap.size) wr pa ps.length pc ps)∧Hid (Sl RLin (fun q=>g<q∧q<W7.heap.size) wr ay t.shape.dims.length cy t.shape.dims)∧Hid (Bx wr w.heap.size 29 [.slice none 0 0,.string ⟨#[]⟩,.string ⟨#[]⟩,.slice none 0 0,.slice none 0 0])∧Hid (Below w.heap.size w wr)) (fun i _=>L2.length - (intOf i).toNat)
         case atStart=>exact ⟨0,[],none,0,0,Nat.zero_le _,rfl,zR _,zR _,HTo,hJ (fun t ht=>by cases ht),HLt,HBX,hJ (Own.nil _ _ _ _ _),HSp,HY,HRs,HBl⟩
         case round =>
          clear HBX HRs HBl HTo HSp HY HLt;obtain ⟨k,ls,qa,qm,qc,hk,rfl,hll,hwz,HRun,HV,HLt,HBX,HOwn,HSp,HY,HRs,HBl⟩:=hrel;by_cases hlt:k<L2.length
          · have y0:wr.cell? ⟨W6.heap.size,k,none⟩=some (.string (L2.getD k default)):=HLt.out.cell k _ (by rw [List.getElem?_map,getD_at hlt];rfl)
            have hxz:=HK3.out _ (kAM hlt);have HDr:Hid (L2.drop k=L2.getD k default :: L2.drop (k+1)):=hJ (drop_at hlt);replace HRun:Hid ((if lossE (kB9 (kBU (L2.getD k default)) (L2.getD k default))=0 then kG1 (L2.drop (k+1)) (ls++[lossX (kB9 (kBU (L2.getD k default)) (L2.getD k default))]) else none)=tot):=hJ (by rw [← HRun.out,HDr.out,listL_cons]);clear HDr;generalize L2.getD k default=x at *;have HC2:=hJ (linear_Parse x hxz wr (HE.out.env.keep HBl.out h8));have HVl:=hJ (lossX_sz (kB9 (kBU x) x));generalize lossE (kB9 (kBU x) x)=er at *;generalize lossX (kB9 (kBU x) x)=y at *
            go_wp2_with fail
            refine HC2.out.mono ?_;rintro e w4 ⟨⟨ds,rfl,ty,rfl,aw,cw,rfl,hy⟩,hb4⟩;have HT:=hJ (Bx.fresh w4 40 [.int .i64 y.const,.slice aw y.terms.length cw]);have t0:=HT.out.cell 0 _ rfl;have t1:=HT.out.cell 1 _ rfl;have hz4:=hb4.size;have HYy:Hid (Sl kA7 (fun k=>wr.heap.size≤k) (w4.alloc (.cells #[.int .i64 y.const,.slice aw y.terms.length cw] 40)) aw y.terms.length cw y.terms):=hJ (hy.below ((zB _ _).alloc (zR _) _));have HB5:Hid (Below wr.heap.size wr (w4.alloc (.cells #[.int .i64 y.const,.slice aw y.terms.length cw] 40))):=hJ (hb4.alloc hz4 _);have HOld:=HOwn;replace HBX:=hJ (HBX.out.below HB5.out HBX.out.lt);replace HOwn:=hJ (HOwn.out.below HB5.out);replace HLt:=hJ (HLt.out.below HB5.out HLt.out.lt);replace HSp:=hJ (HSp.out.below HB5.out);replace HY:=hJ (HY.out.below HB5.out);replace HRs:=hJ (HRs.out.below HB5.out HRs.out.lt);replace HBl:=hJ (HBl.out.trans (HB5.out.mono HBl.out.size));have v4:=HBX.out.cell 4 _ rfl;have fv4:=HBX.out.fz 4;clear hb4 hy HC2 y0;by_cases her:er=0
            · subst her
              have HNx:Hid (kG1 (L2.drop (k+1)) (ls++[y])=tot):=hJ (by rw [← HRun.out,if_pos rfl]);have hvy:Hid (kAB y=true):=hJ (HVl.out rfl);clear HRun HVl
              go_wp2_with (at_builtin;refine kA1 kA2 rfl _ _ rfl W7.heap.size _ _ rfl (HOwn.out.alloc _) _ y [.int .i64 y.const,.slice aw y.terms.length cw] rfl ⟨_,rfl,aw,cw,rfl,(HYy.out.below ((zB _ _).alloc (zR _) _)).mono (fun q hq _=>⟨by omega,fun e=>by have:=(HOld.out.block e).2;omega⟩)⟩ (kA3 40 (by (simp only [kAJ,kAF,Array.getElem?_push,Array.size_push];simp))) (by omega) (by unfold maxLen;omega) (by simp;omega) ?_;intro v9 w9 hown9 hb9 hk9;obtain ⟨a9,m9,c9,rfl⟩:=hown9.shape;have HX9:=hJ ((HBX.out.alloc _).kp hk9 (HOwn.out.ne (by omega)));have HP9:=hJ ((HLt.out.alloc _).kp hk9 (HOwn.out.ne (by omega)));have HR9:=hJ ((HRs.out.alloc _).kp hk9 (HOwn.out.ne (by omega)));have HS9:=hJ ((HSp.out.below ((zB _ _).alloc (zR _) _)).frame (w':=w9) (fun q hq hl=>hk9.block q hl (HOwn.out.ne hq.2)));have HY9:=hJ ((HY.out.below ((zB _ _).alloc (zR _) _)).frame (w':=w9) (fun q hq hl=>hk9.block q hl (HOwn.out.ne hq.2)));have z9:=HX9.out.cell 4 _ rfl;have f9:=HX9.out.fz 4;have hz9:=hb9.size)
              go_roundw
              case rel=>exact ⟨k+1,ls++[y],a9,m9,c9,by omega,by go_num,by rw [zP];show ls.length+1≤_;omega,by have:=hz9;simp at this ⊢;omega,HNx,hJ (fun d hd=>(List.mem_append.mp hd).elim (HV.out d) (fun q=>by rw [List.mem_singleton.mp q];exact hvy.out)),hJ (HP9.out.other (by show g≠_;omega)),hJ (HX9.out.set 4 _),hJ (hown9.set _ (fun q hq=>by show q≠g;omega) (by show g<_;omega)),hJ (HS9.out.frame (fun q hq _=>kAA (by show g≠q;omega))),hJ (HY9.out.frame (fun q hq _=>kAA (by show g≠q;omega))),hJ (HR9.out.other (by show g≠_;omega)),hJ (((HBl.out.alloc HBl.out.size _).trans (hb9.mono (by omega))).setCell (by show _≤g;omega) _)⟩
              case measure=>simp [intOf];omega
            · have HF:Hid (res=none):=hJ (HR2.out (by rw [← HRun.out,if_neg her]))
              have n9:(er != 0)=true:=bne_iff_ne.2 her;clear HRun her;have z0:=HRs.out.cell 0 _ rfl;have z1:=HRs.out.cell 1 _ rfl;have z2:=HRs.out.cell 2 _ rfl;have z3:=HRs.out.cell 3 _ rfl;have z4:=HRs.out.cell 4 _ rfl;have f0:=HRs.out.fz 0;have f1:=HRs.out.fz 1;have f2:=HRs.out.fz 2;have f3:=HRs.out.fz 3;have f4:=HRs.out.fz 4;have hl0:=HRs.out.lt;have HZz:=hJ (((((HRs.out.set 0 (.slice none 0 0)).set 1 (.string ⟨#[]⟩)).set 2 (.string ⟨#[]⟩)).set 3 (.slice none 0 0)).set 4 (.slice none 0 0));have s0:=HZz.out.cell 0 _ rfl;have s1:=HZz.out.cell 1 _ rfl;have s2:=HZz.out.cell 2 _ rfl;have s3:=HZz.out.cell 3 _ rfl;have s4:=HZz.out.cell 4 _ rfl
              go_upto_region 26 with fail
              (try simp only []);repeat (first | go_values | go_skip | go_guarded | go_step | go_upon)
              refine bodyPost_ret (v:=.tuple #[.agg #[.slice none 0 0,.string ⟨#[]⟩,.string ⟨#[]⟩,.slice none 0 0,.slice none 0 0],.int .i64 6]) (by simp [results,results13,go_sem,s0,s1,s2,s3,s4,hl0]) rfl ?_;have HFr:Hid (∀ W,RSch.rd (fun k=>w.heap.size≤k) W [.slice none 0 0,.string ⟨#[]⟩,.string ⟨#[]⟩,.slice none 0 0,.slice none 0 0] (optS res)):=hJ (fun W=>by rw [HF.out];exact ⟨_,_,_,rfl,⟨none,0,rfl,Sl.empty RTyp _ _⟩,⟨none,0,rfl,Sl.empty RLin _ _⟩,⟨none,0,rfl,Sl.empty RLin _ _⟩⟩);exact ⟨⟨_,by rw [HF.out];rfl,HFr.out _⟩,((((HBl.out.setCell (zR _) _).setCell (zR _) _).setCell (zR _) _).setCell (zR _) _).setCell (zR _) _⟩
          · have hke:k=L2.length:=by omega
            have HLs:Hid (kG1 L2 []=some ls):=hJ (by rw [HTo0.out,← HRun.out,List.drop_of_length_le (by omega)];rfl);obtain ⟨a9,c9,e9,hsl⟩:=HOwn.out.sl;rw [Value.slice.injEq] at e9;obtain ⟨rfl,rfl,rfl⟩:=e9
            go_wp2_with fail
            go_meet
            exact ⟨ls,qa,qc,rfl,hJ (by first | exact HLs.out | exact (if_pos trivial).trans HLs.out | simpa using HLs.out),HV,HBX,hJ (HSp.out.mono (fun q hq _=>hq.1)),hJ (HY.out.mono (fun q hq _=>hq.1)),hJ (hsl.mono (fun q hq _=>by rcases hq with q | q <;> omega)),HRs,HBl⟩
      case rest =>
       obtain ⟨ls,qa,qc,rfl,HLs,HVl,HBX,HSp,HY,HQ,HRs,HBl⟩:=hcut;generalize hwc:wc=W8 at *;clear hwc;replace HR:Hid (res=okSch s ⟨ps,t,ls⟩):=hJ (by rw [HR.out,HLs.out]);have HR3:Hid (res=if kAI ⟨ps,t,ls⟩ && (kC4 ⟨ps,t,ls⟩).toList==s.toList then some ⟨ps,t,ls⟩ else none):=hJ HR.out;have hgW:=HBX.out.lt;have HRd:Hid (RSch.rd (fun q=>g<q) W8 [.slice pa ps.length pc,.string t.elem,.string t.shape.row,.slice ay t.shape.dims.length cy,.slice qa ls.length qc] ⟨ps,t,ls⟩):=hJ ⟨_,_,_,rfl,⟨pa,pc,rfl,HSp.out⟩,⟨ay,cy,rfl,HY.out⟩,⟨qa,qc,rfl,HQ.out⟩⟩;have HEr:=hJ (HE.out.env.keep HBl.out h8);have HC:=hJ (kFG HRd.out ⟨fun t ht=>typT_sz (HVp.out t ht),typT_sz hvt,fun d hd=>valid_szL (HVl.out d hd)⟩ HEr.out);have v0:=HBX.out.cell 0 _ rfl;have v1:=HBX.out.cell 1 _ rfl;have v2:=HBX.out.cell 2 _ rfl;have v3:=HBX.out.cell 3 _ rfl;have v4:=HBX.out.cell 4 _ rfl;clear HCS HSp HY HQ HLs HR;cases hv:kAI ⟨ps,t,ls⟩ with
       | false =>
         have HF:Hid (res=none):=hJ (by rw [HR3.out,hv];rfl);rw [hv,if_neg Bool.false_ne_true] at HC;generalize kGM ⟨ps,t,ls⟩=o at *;clear HRd HR3
         go_wp2_with fail
         refine (HC.out).mono ?_;rintro e w1 ⟨rfl,hb⟩;replace HRs:=hJ (HRs.out.below hb HRs.out.lt);replace HBl:=hJ (HBl.out.trans (hb.mono HBl.out.size));have z0:=HRs.out.cell 0 _ rfl;have z1:=HRs.out.cell 1 _ rfl;have z2:=HRs.out.cell 2 _ rfl;have z3:=HRs.out.cell 3 _ rfl;have z4:=HRs.out.cell 4 _ rfl;have f0:=HRs.out.fz 0;have f1:=HRs.out.fz 1;have f2:=HRs.out.fz 2;have f3:=HRs.out.fz 3;have f4:=HRs.out.fz 4;have hl0:=HRs.out.lt;have HZz:=hJ (((((HRs.out.set 0 (.slice none 0 0)).set 1 (.string ⟨#[]⟩)).set 2 (.string ⟨#[]⟩)).set 3 (.slice none 0 0)).set 4 (.slice none 0 0));have s0:=HZz.out.cell 0 _ rfl;have s1:=HZz.out.cell 1 _ rfl;have s2:=HZz.out.cell 2 _ rfl;have s3:=HZz.out.cell 3 _ rfl;have s4:=HZz.out.cell 4 _ rfl
         go_upto_region 31 with fail
         (try simp only []);repeat (first | go_values | go_skip | go_guarded | go_step | go_upon)
         refine bodyPost_ret (v:=.tuple #[.agg #[.slice none 0 0,.string ⟨#[]⟩,.string ⟨#[]⟩,.slice none 0 0,.slice none 0 0],.int .i64 6]) (by simp [results,results13,go_sem,s0,s1,s2,s3,s4,hl0]) rfl ?_;have HFr:Hid (∀ W,RSch.rd (fun k=>w.heap.size≤k) W [.slice none 0 0,.string ⟨#[]⟩,.string ⟨#[]⟩,.slice none 0 0,.slice none 0 0] (optS res)):=hJ (fun W=>by rw [HF.out];exact ⟨_,_,_,rfl,⟨none,0,rfl,Sl.empty RTyp _ _⟩,⟨none,0,rfl,Sl.empty RLin _ _⟩,⟨none,0,rfl,Sl.empty RLin _ _⟩⟩);exact ⟨⟨_,by rw [HF.out];rfl,HFr.out _⟩,((((HBl.out.setCell (zR _) _).setCell (zR _) _).setCell (zR _) _).setCell (zR _) _).setCell (zR _) _⟩
       | true =>
         have HPe:Hid (kGM ⟨ps,t,ls⟩=kC4 ⟨ps,t,ls⟩):=hJ (by unfold kGM;rw [if_pos hv]);rw [hv,if_pos rfl,HPe.out] at HC;rw [hv] at HR3;generalize kC4 ⟨ps,t,ls⟩=o at *
         go_wp2_with fail
         refine (HC.out).mono ?_;rintro e w2 ⟨rfl,hb⟩;have HB2:=hJ hb;replace v0:=(hb.cell (by show g<_;omega)).trans v0;replace v1:=(hb.cell (by show g<_;omega)).trans v1;replace v2:=(hb.cell (by show g<_;omega)).trans v2;replace v3:=(hb.cell (by show g<_;omega)).trans v3;replace v4:=(hb.cell (by show g<_;omega)).trans v4;replace HRs:=hJ (HRs.out.below HB2.out HRs.out.lt);replace HBl:=hJ (HBl.out.trans (HB2.out.mono HBl.out.size));cases ho:(o.toList==s.toList) with
         | false =>
           have HF:Hid (res=none):=hJ (by rw [HR3.out,ho];rfl);have z0:=HRs.out.cell 0 _ rfl;have z1:=HRs.out.cell 1 _ rfl;have z2:=HRs.out.cell 2 _ rfl;have z3:=HRs.out.cell 3 _ rfl;have z4:=HRs.out.cell 4 _ rfl;have f0:=HRs.out.fz 0;have f1:=HRs.out.fz 1;have f2:=HRs.out.fz 2;have f3:=HRs.out.fz 3;have f4:=HRs.out.fz 4;have hl0:=HRs.out.lt;have HZz:=hJ (((((HRs.out.set 0 (.slice none 0 0)).set 1 (.string ⟨#[]⟩)).set 2 (.string ⟨#[]⟩)).set 3 (.slice none 0 0)).set 4 (.slice none 0 0));have s0:=HZz.out.cell 0 _ rfl;have s1:=HZz.out.cell 1 _ rfl;have s2:=HZz.out.cell 2 _ rfl;have s3:=HZz.out.cell 3 _ rfl;have s4:=HZz.out.cell 4 _ rfl
           go_upto_region 31 with fail
           (try simp only []);repeat (first | go_values | go_skip | go_guarded | go_step | go_upon)
           refine bodyPost_ret (v:=.tuple #[.agg #[.slice none 0 0,.string ⟨#[]⟩,.string ⟨#[]⟩,.slice none 0 0,.slice none 0 0],.int .i64 6]) (by simp [results,results13,go_sem,s0,s1,s2,s3,s4,hl0]) rfl ?_;have HFr:Hid (∀ W,RSch.rd (fun k=>w.heap.size≤k) W [.slice none 0 0,.string ⟨#[]⟩,.string ⟨#[]⟩,.slice none 0 0,.slice none 0 0] (optS res)):=hJ (fun W=>by rw [HF.out];exact ⟨_,_,_,rfl,⟨none,0,rfl,Sl.empty RTyp _ _⟩,⟨none,0,rfl,Sl.empty RLin _ _⟩,⟨none,0,rfl,Sl.empty RLin _ _⟩⟩);exact ⟨⟨_,by rw [HF.out];rfl,HFr.out _⟩,((((HBl.out.setCell (zR _) _).setCell (zR _) _).setCell (zR _) _).setCell (zR _) _).setCell (zR _) _⟩
         | true =>
           have HF:Hid (res=some ⟨ps,t,ls⟩):=hJ (by rw [HR3.out,ho];rfl);have z0:=HRs.out.cell 0 _ rfl;have z1:=HRs.out.cell 1 _ rfl;have z2:=HRs.out.cell 2 _ rfl;have z3:=HRs.out.cell 3 _ rfl;have z4:=HRs.out.cell 4 _ rfl;have f0:=HRs.out.fz 0;have f1:=HRs.out.fz 1;have f2:=HRs.out.fz 2;have f3:=HRs.out.fz 3;have f4:=HRs.out.fz 4;have hl0:=HRs.out.lt
           go_upto_region 32 with fail
           (try simp only []);repeat (first | go_values | go_skip | go_guarded | go_step | go_upon)
           have HZz:=hJ (((((HRs.out.set 0 (.slice pa ps.length pc)).set 1 (.string t.elem)).set 2 (.string t.shape.row)).set 3 (.slice ay t.shape.dims.length cy)).set 4 (.slice qa ls.length qc));have s0:=HZz.out.cell 0 _ rfl;have s1:=HZz.out.cell 1 _ rfl;have s2:=HZz.out.cell 2 _ rfl;have s3:=HZz.out.cell 3 _ rfl;have s4:=HZz.out.cell 4 _ rfl;refine bodyPost_ret (v:=.tuple #[.agg #[.slice pa ps.length pc,.string t.elem,.string t.shape.row,.slice ay t.shape.dims.length cy,.slice qa ls.length qc],.int .i64 0]) (by simp [results,results13,go_sem,s0,s1,s2,s3,s4,hl0]) rfl ?_;have hfr:∀ (W:World) (j:Nat) (u:Value) (q:Nat),g<q→(W.setCell ⟨w.heap.size,j,none⟩ u).heap[q]? =W.heap[q]? :=fun W j u q hq=>kAA (by show w.heap.size≠q;omega)
           exact ⟨⟨_,by rw [HF.out];rfl,by rw [HF.out];exact RSch.mono (RSch.frame (RSch.frame (RSch.frame (RSch.frame (RSch.frame (RSch.below HRd.out HB2.out) (fun q hq _=>hfr _ 0 _ q hq)) (fun q hq _=>hfr _ 1 _ q hq)) (fun q hq _=>hfr _ 2 _ q hq)) (fun q hq _=>hfr _ 3 _ q hq)) (fun q hq _=>hfr _ 4 _ q hq)) (fun q hq _=>by show w.heap.size≤q;omega)⟩,((((HBl.out.setCell (zR _) _).setCell (zR _) _).setCell (zR _) _).setCell (zR _) _).setCell (zR _) _⟩
 · have HF:Hid (res=none):=hJ (by rw [HR.out,if_neg hok])
   clear HR;cases ok1:cut3 s arrS with
   | false =>
     clear hok;have z0:=HRs.out.cell 0 _ rfl;have z1:=HRs.out.cell 1 _ rfl;have z2:=HRs.out.cell 2 _ rfl;have z3:=HRs.out.cell 3 _ rfl;have z4:=HRs.out.cell 4 _ rfl;have f0:=HRs.out.fz 0;have f1:=HRs.out.fz 1;have f2:=HRs.out.fz 2;have f3:=HRs.out.fz 3;have f4:=HRs.out.fz 4;have hl0:=HRs.out.lt;have HZz:=hJ (((((HRs.out.set 0 (.slice none 0 0)).set 1 (.string ⟨#[]⟩)).set 2 (.string ⟨#[]⟩)).set 3 (.slice none 0 0)).set 4 (.slice none 0 0));have s0:=HZz.out.cell 0 _ rfl;have s1:=HZz.out.cell 1 _ rfl;have s2:=HZz.out.cell 2 _ rfl;have s3:=HZz.out.cell 3 _ rfl;have s4:=HZz.out.cell 4 _ rfl
     go_upto_region 4 with fail
     (try simp only []);repeat (first | go_values | go_skip | go_guarded | go_step | go_upon)
     refine bodyPost_ret (v:=.tuple #[.agg #[.slice none 0 0,.string ⟨#[]⟩,.string ⟨#[]⟩,.slice none 0 0,.slice none 0 0],.int .i64 6]) (by simp [results,results13,go_sem,s0,s1,s2,s3,s4,hl0]) rfl ?_;have HFr:Hid (∀ W,RSch.rd (fun k=>w.heap.size≤k) W [.slice none 0 0,.string ⟨#[]⟩,.string ⟨#[]⟩,.slice none 0 0,.slice none 0 0] (optS res)):=hJ (fun W=>by rw [HF.out];exact ⟨_,_,_,rfl,⟨none,0,rfl,Sl.empty RTyp _ _⟩,⟨none,0,rfl,Sl.empty RLin _ _⟩,⟨none,0,rfl,Sl.empty RLin _ _⟩⟩);exact ⟨⟨_,by rw [HF.out];rfl,HFr.out _⟩,((((HBl.out.setCell (zR _) _).setCell (zR _) _).setCell (zR _) _).setCell (zR _) _).setCell (zR _) _⟩
   | true =>
     cases ok2:hasP (cut1 s arrS) parS with
     | false =>
       clear hok;have z0:=HRs.out.cell 0 _ rfl;have z1:=HRs.out.cell 1 _ rfl;have z2:=HRs.out.cell 2 _ rfl;have z3:=HRs.out.cell 3 _ rfl;have z4:=HRs.out.cell 4 _ rfl;have f0:=HRs.out.fz 0;have f1:=HRs.out.fz 1;have f2:=HRs.out.fz 2;have f3:=HRs.out.fz 3;have f4:=HRs.out.fz 4;have hl0:=HRs.out.lt;have HZz:=hJ (((((HRs.out.set 0 (.slice none 0 0)).set 1 (.string ⟨#[]⟩)).set 2 (.string ⟨#[]⟩)).set 3 (.slice none 0 0)).set 4 (.slice none 0 0));have s0:=HZz.out.cell 0 _ rfl;have s1:=HZz.out.cell 1 _ rfl;have s2:=HZz.out.cell 2 _ rfl;have s3:=HZz.out.cell 3 _ rfl;have s4:=HZz.out.cell 4 _ rfl
       go_upto_region 4 with fail
       (try simp only []);repeat (first | go_values | go_skip | go_guarded | go_step | go_upon)
       refine bodyPost_ret (v:=.tuple #[.agg #[.slice none 0 0,.string ⟨#[]⟩,.string ⟨#[]⟩,.slice none 0 0,.slice none 0 0],.int .i64 6]) (by simp [results,results13,go_sem,s0,s1,s2,s3,s4,hl0]) rfl ?_;have HFr:Hid (∀ W,RSch.rd (fun k=>w.heap.size≤k) W [.slice none 0 0,.string ⟨#[]⟩,.string ⟨#[]⟩,.slice none 0 0,.slice none 0 0] (optS res)):=hJ (fun W=>by rw [HF.out];exact ⟨_,_,_,rfl,⟨none,0,rfl,Sl.empty RTyp _ _⟩,⟨none,0,rfl,Sl.empty RLin _ _⟩,⟨none,0,rfl,Sl.empty RLin _ _⟩⟩);exact ⟨⟨_,by rw [HF.out];rfl,HFr.out _⟩,((((HBl.out.setCell (zR _) _).setCell (zR _) _).setCell (zR _) _).setCell (zR _) _).setCell (zR _) _⟩
     | true=>exact absurd (by rw [ok1,ok2];rfl) hok
structure IfcOk (x:Ifc):Prop where
 mod:isNameB x.module_=true
 len:x.entries.length≤60
 ents:∀ e ∈ x.entries,isNameB e.name=true∧kAI e.scheme=true
open Go.RowKit Go.Shelf
attribute [local go_sem] Oper.semAt_some
theorem splitB_mem (p:Str):∀ (k:Nat) (s:Str),∀ x ∈ Lib.splitB p 0 k s,x.size≤s.size
 | 0,s,x,h=>by
   rw [List.mem_singleton.1 h];exact zR _
 | k+1,s,x,h=>by
   unfold Lib.splitB at h
   split at h
   · rw [List.mem_singleton.1 h];exact zR _
   · rcases List.mem_cons.1 h with rfl | h
     · rw [ByteArray.size_extract];omega
     · have:=splitB_mem p k _ x h
       rw [ByteArray.size_extract] at this;omega
theorem splitS_mem {s p x:Str} (h:x ∈ kBS s p):x.size≤s.size:=splitB_mem p _ s x h
theorem cutE_le (s p:Str):(cutE s p).size≤s.size:=cutE_size s p
theorem innerH_le (s:Str):(kBY s).size≤s.size:=zE (cutE_le _ _) (cutP_size _ _)
theorem small_TOk {y:Str} (h:y.size≤300):TOk y:=⟨by omega,fun x hx=>by
 have h1:=splitS_mem hx;have h2:=innerH_le (y.extract 0 (kD6 y));rw [ByteArray.size_extract] at h2;omega⟩
theorem parF_mem (s:Str):∀ k,∀ x ∈ (parF s k).2,x.size≤s.size
 | 0,x,h=>by cases h
 | k+1,x,h=>by
   unfold parF at h
   split at h
   · rcases List.mem_append.1 h with q | q
     · exact parF_mem s k x q
     · rw [List.mem_singleton.1 q,ByteArray.size_extract];omega
   · exact parF_mem s k x h
theorem paramsM_mem {s x:Str} (h:x ∈ kCQ s):x.size≤s.size:=by
 unfold kCQ at h;rcases List.mem_append.1 h with q | q
 · exact parF_mem s _ x q
 · rw [List.mem_singleton.1 q,ByteArray.size_extract];omega
theorem small_SOk {s:Str} (h:s.size≤300):SOk s:=by
 have h1:=cut1_size s arrS;have h2:=kI9 s arrS;have h3:=cut1_size (cut2 s arrS) whrS;have h4:=kI9 (cut2 s arrS) whrS;have h5:(kFR s).size≤(cut1 s arrS).size:=cutP_size _ _;exact ⟨by omega,fun y hy=>small_TOk (by have:=paramsM_mem hy;omega),small_TOk (by omega),fun y hy=>by have:=splitS_mem hy;omega⟩
theorem elemLin_zero:∃ z:Value,(∀ w,(zeroValue 40).run Tryz.prog w= .ok z w)∧z.cells.size=2∧∀ v ∈ z.cells.toList,v.oneCell'=true:=⟨.agg #[.int .i64 0,.slice none 0 0],fun w=>by kernel_rfl,rfl,by intro v hv;simp [Value.cells] at hv;rcases hv with rfl | rfl <;> rfl⟩
theorem kIS (w:World) (g o n c:Nat) (hn:0<n) (hc:∀ j,j<n * 2→(w.cell? ⟨g,o+j,none⟩).isSome=true) (hf:∀ j,j<n * 2→w.frozen? ⟨g,o+j,none⟩=false) :
 ∃ vs:List Value,∀ ty:TypeId,(Builtin.clear_ #[23] ty #[.slice (some ⟨g,o,none⟩) n c]).run Tryz.prog w= .ok (.tuple #[]) (w.setCells g o vs):=by
 obtain ⟨z,hz,hs,h1⟩:=elemLin_zero;have hlen:(Builtin.zeroCells z.cells n).toList.length=n * 2:=by simp [Builtin.zeroCells,hs]
 have hone:∀ v ∈ (Builtin.zeroCells z.cells n).toList,v.oneCell'=true:=fun v hv=>by
  simp only [Builtin.zeroCells,Array.toList_map,List.mem_map] at hv;obtain ⟨i,_,rfl⟩:=hv;have hlt:i % z.cells.size<z.cells.size:=Nat.mod_lt _ (by omega);rw [getElem!_pos z.cells _ hlt];exact h1 _ (by rw [← Array.getElem_toList];exact List.getElem_mem _)
 have hst:=run_storeCells_cells (P:=Tryz.prog) g o (Builtin.zeroCells z.cells n).toList 0 w (by rw [hlen];simpa using hc) (by rw [hlen];simpa using hf) hone;simp only [Nat.add_zero] at hst;obtain ⟨m,rfl⟩:∃ m,n=m+1:=⟨n - 1,by omega⟩
 exact ⟨_,fun ty=>by simp [Builtin.clear_,run_underlying underlying23,hz,hst];rfl⟩
theorem Raw.some_cell {k:Nat} {E:TypeId} {w:World} {g:Nat} {css:List (List Value)} {rest:List Value} (h:Raw k E w g css rest) {o:Nat} (ho:o<css.length * k+rest.length):(w.cell? ⟨g,o,none⟩).isSome=true:=by
 have hl:o<(css.flatten++rest).length:=by rw [zP,kBD h.len];exact ho
 rw [h.bx.cell o _ (zG hl)];rfl
theorem keep_filter (p:Lin→Bool) (l:List Lin):kept (fun i=> !p (l.getD i default)) l l.length=l.filter (fun x=> !p x):=by
 have:=kept_filter (fun x=> !p x) l l.length (zR _)
 rwa [List.take_length] at this
theorem delete_Lin {S:Blk} {w:World} {base:Nat} {v:Value} {l:List Lin} (h:Own RLin 40 S w base v l) (hbase:base≤w.heap.size) (hn:l.length≤1000) (g:FuncId) (hen:Ent1 g) (p:Lin→Bool)
 (hp:∀ (S':Blk) (W:World) (x:Lin) (cs:List Value),RLin.rd S' W cs x→Calls Tryz.prog g #[.agg cs.toArray] W fun e w'=>e= .returned (.bool (p x))∧Below W.heap.size W w') :
 Calls Tryz.prog 23 #[v,.func (.func g) #[] #[]] w fun e w'=>(∃ v',e= .returned v'∧Own RLin 40 S w' base v' (l.filter (fun x=> !p x))∧Kl v v' w w')∧Below base w w':=by
 obtain ⟨a,c,rfl,hsl⟩:=h.sl;have HIx:=hJ (index_Lin l a l.length c w hsl g #[] hen p (fun W x cs hb _ hr=>hp _ W x cs hr));by_cases hany:l.any p=true
 case neg =>
  have hidx:idx p l= -1:=by unfold idx;rw [if_neg hany]
  have HF:Hid (l.filter (fun x=> !p x)=l):=hJ (by
   rw [List.filter_eq_self];intro x hx;have:l.any p=false:=by simpa using hany
   rw [List.any_eq_false] at this
   simpa using this x hx)
  rw [hidx] at HIx;have HO:=hJ h;clear h hsl hany hidx hp;generalize hln:l.length=n at *;go_enter func23,ntmps23
  go_wp2_with fail
  refine HIx.out.mono ?_;rintro e w1 ⟨rfl,hb1⟩
  go_wp2_with fail
  go_ret;exact ⟨⟨_,rfl,by rw [HF.out];exact HO.out.below hb1,Kl.below hb1⟩,hb1.mono hbase⟩
 obtain ⟨hi0,hpi0⟩:=kGH hany
 have hbef:∀ j,j<l.findIdx p→p (l.getD j default)=false:=fun j hj=>by
  have:=List.not_of_lt_findIdx hj;rw [zD,zG (by omega)]
  simpa using this
 have hidx:idx p l=(l.findIdx p:Int):=by unfold idx;rw [if_pos hany]
 rw [hidx] at HIx;generalize l.findIdx p=i0 at *;have hl:0<l.length:=by omega
 have hk0:KeepAt (fun i=> !p (l.getD i default)) l l i0:=KeepAt.same (by omega) (fun j hj=>by show (!p _)=true;rw [hbef j hj];rfl);have hk1:=hk0.skip (by show (!p (l.getD i0 default))=false;rw [hpi0];rfl)
 have hkl:(kept (fun i=> !p (l.getD i default)) l (i0+1)).length=i0:=by
  rw [kB7,if_neg (by rw [hpi0];decide),kept_all _ _ _ (by omega) (fun j hj=>by show (!p _)=true;rw [hbef j hj];rfl),zN];omega
 have HK0:=hJ hk1;have HKl:=hJ hkl;obtain ⟨gb,c2,css0,rest0,hv,hgb,hR,hL,hlc,hcm,hsz⟩:=h.raw hl;rw [Value.slice.injEq] at hv;obtain ⟨rfl,-,rfl⟩:=hv;have HR0:=hJ hR;have HL0:=hJ hL;have HS0:=hJ hsz;have HP:=hJ hp;have HFin:=hJ (keep_filter p l);have hgl:=hR.lt;clear h hsl hany hidx hbef hk0 hk1 hkl hR hL hsz hp hpi0;generalize hln:l.length=n at *;have HN:=hJ hln;clear hln;go_enter func23,ntmps23
 go_wp2_with fail
 refine HIx.out.mono ?_;rintro e w1 ⟨rfl,hb1⟩;have hne:((i0:Int)== -1)=false:=beq_eq_false_iff_ne.2 (by omega);have HR1:=hJ (HR0.out.below hb1 hgl);have HL1:=hJ (HL0.out.below hb1);have hB1:=(Kb.refl gb w).later hb1;clear HIx
 go_wp2_with fail
 go_loopw [5,6] (fun iv jv wr=>∃ (j k:Nat) (M:List Lin) (css:List (List Value)) (rest:List Value),j≤n∧k<j∧iv= .int .i64 k∧jv= .int .i64 j∧Hid ((kept (fun i=> !p (l.getD i default)) l j).length=k)∧Hid (KeepAt (fun i=> !p (l.getD i default)) l M j)∧Hid (Raw 2 40 wr gb css rest)∧Hid (Lies RLin S wr gb css M)∧Hid (css.length * 2+rest.length=c * 2)∧Kb gb w wr) (fun _ jv _=>n - (intOf jv).toNat)
 case atStart=>exact ⟨i0+1,i0,_,_,_,by omega,by omega,rfl,by go_num,HKl,HK0,HR1,HL1,HS0,hB1⟩
 case round =>
  obtain ⟨j,k,M,css,rest,hj,hk,rfl,rfl,HKl,HK,HR,HL,HS,hB⟩:=hrel;have HMl:Hid (M.length=n):=hJ (by rw [HK.out.len];exact HN.out);have hsz:=hB.size;by_cases hlt:j<n
  · have hjM:j<M.length:=by rw [HMl.out];exact hlt
    obtain ⟨csx,hix,hrx⟩:=HL.out.at_ hjM;rw [HK.out.at_ j (zR _)] at hrx;have HSk:Hid (p (l.getD j default)=true→KeepAt (fun i=> !p (l.getD i default)) l M (j+1)∧(kept (fun i=> !p (l.getD i default)) l (j+1)).length=k):=hJ (fun q=>⟨HK.out.skip (by show (!p _)=false;rw [q];rfl),by rw [kB7,if_neg (by rw [q];decide)];exact HKl.out⟩);have HPt:Hid (p (l.getD j default)=false→KeepAt (fun i=> !p (l.getD i default)) l (M.set k (l.getD j default)) (j+1)∧(kept (fun i=> !p (l.getD i default)) l (j+1)).length=k+1):=hJ (fun q=>⟨by have:=HK.out.put (by rw [HN.out];exact hlt) (by show (!p _)=true;rw [q];rfl);rwa [HKl.out] at this,by rw [kB7,if_pos (by rw [q];rfl),zP,HKl.out];rfl⟩);have hcl:css.length=n:=by rw [HL.out.1];exact HMl.out
    have hkM:k<M.length:=by omega
    obtain ⟨csk,hik,hrk⟩:=HL.out.at_ hkM;obtain ⟨_,rfl,ak,ck,rfl,_⟩:=hrk;have HIK:=hJ hik;have HCl:=hJ hcl;clear hik hcl hkM;generalize l.getD j default=x at *;obtain ⟨_,rfl,ax,cx,rfl,hsx⟩:=hrx;have x0:=HR.out.cell hix 0 _ rfl;have x1:=HR.out.cell hix 1 _ rfl;rw [Nat.add_zero] at x0;have HX:=hJ (⟨_,rfl,ax,cx,rfl,hsx⟩:RLin.rd (fun q=>S q∧q≠gb) wr [.int .i64 x.const,.slice ax x.terms.length cx] x);clear hix hsx hjM;have HA:Hid (Below wr.heap.size wr (wr.alloc (.cells #[.int .i64 x.const,.slice ax x.terms.length cx] 40))):=hJ ((zB _ _).alloc (zR _) _);have HC:=hJ (HP.out _ _ x _ (RLin.below HX.out HA.out));have HBx:=hJ (Bx.fresh wr 40 [.int .i64 x.const,.slice ax x.terms.length cx]);generalize M.getD k default=y at *;cases hpx:p x with
    | true =>
      rw [hpx] at HC;have HSk:=hJ (HSk.out hpx);clear hpx HPt
      go_wp2_with (go_at_fn g;refine HC.out.mono ?_;rintro e w4 ⟨rfl,hb4⟩)
      have HB4:=hJ (HA.out.trans (hb4.mono HA.out.size));go_roundw
      case rel=>exact ⟨j+1,k,M,css,rest,by omega,by omega,rfl,by go_num,hJ HSk.out.2,hJ HSk.out.1,hJ (HR.out.below HB4.out HR.out.lt),hJ (HL.out.below HB4.out),HS,hB.later HB4.out⟩
      case measure=>simp [intOf];omega
    | false =>
      rw [hpx] at HC;have HPt:=hJ (HPt.out hpx);clear hpx HSk;have hkn:(k:Int)<(n:Int):=by omega
      go_wp2_with (go_at_fn g;refine HC.out.mono ?_;rintro e w4 ⟨rfl,hb4⟩;have HB4:=hJ (HA.out.trans (hb4.mono HA.out.size));have HR4:=hJ (HR.out.below HB4.out HR.out.lt);have k0:=HR4.out.cell HIK.out 0 _ rfl;have k1:=HR4.out.cell HIK.out 1 _ rfl;rw [Nat.add_zero] at k0;have f0:=HR4.out.fz (k * 2);have f1:=HR4.out.fz (k * 2+1);have HP4:=hJ (HBx.out.below hb4 (by simp));have p0:=HP4.out.cell 0 _ rfl;have p1:=HP4.out.cell 1 _ rfl)
      go_roundw
      case rel=>exact ⟨j+1,k+1,M.set k x,_,rest,by omega,by omega,by go_num,by go_num,hJ HPt.out.2,hJ HPt.out.1,hJ (HR4.out.put2 (i:=k) (by rw [HCl.out];omega) _ _),hJ ((((HL.out.below HB4.out).self _ _).self _ _).set k (RLin.frame (RLin.below HX.out HB4.out) (fun q hq _=>(kAA (fun e=>hq.2 e.symm)).trans (kAA (fun e=>hq.2 e.symm))))),hJ (by rw [List.length_set];exact HS.out),((hB.later HB4.out).set _ _).set _ _⟩
      case measure=>simp [intOf];omega
  · obtain rfl:j=n:=by omega
    have hcl:css.length=j:=by rw [HL.out.1];exact HMl.out
    obtain ⟨vs,hclr⟩:=kIS wr gb (k * 2) (j - k) (c - k) (by omega) (fun i hi=>HR.out.some_cell (by rw [hcl];have:=HS.out;omega)) (fun i hi=>HR.out.fz _);obtain ⟨rest',hR',hr'⟩:=Raw.setCells vs (HR.out.take k) (o:=k * 2) (by rw [zN];omega);have HR':=hJ hR';have HFk:Hid (M.take k=l.filter (fun x=> !p x)):=hJ (by rw [← HKl.out,HK.out.front];exact HFin.out);have HFl:Hid ((l.filter (fun x=> !p x)).length=k):=hJ (by rw [← HFk.out,zN,HMl.out];omega);have HL':Hid (Lies RLin S (wr.setCells gb (k * 2) vs) gb (css.take k) (l.filter (fun x=> !p x))):=hJ (by rw [← HFk.out];exact (HL.out.take k).frame (fun q _ hne _=>kF1 gb vs wr _ q hne))
    have HS':Hid ((css.take k).length * 2+rest'.length=c * 2):=hJ (by
     have h1:=HS.out;rw [hr',zP,kBD (m:=2) (fun cs hc=>HR.out.len cs (List.mem_of_mem_drop hc)),List.length_drop,zN];omega)
    have hkc:¬c=k:=by omega
    clear hR' hr' hcl
    go_wp2_with fail
    go_ret;have hO:=HR'.out.own HL'.out hgb (by rw [HFl.out];omega) hcm HS'.out;rw [HFl.out] at hO;exact ⟨⟨_,rfl,hO,(Kb.sets vs hB _).kl _ _ _ _⟩,(Kb.sets vs hB _).below hgb hbase⟩
theorem kept_small {α :Type} [Inhabited α] (eq: α → α →Bool) (l:List α) (h:l.length<2):kept (newB eq l) l l.length=l:=by
 match l,h with
 | [],_=>rfl
 | [a],_=>rfl
theorem newB_at {α :Type} [Inhabited α] {eq: α → α →Bool} {l:List α} {k:Nat} (h:0<k):newB eq l k= !eq (l.getD k default) (l.getD (k - 1) default):=by
 unfold newB;rw [show (k==0)=false by simpa using Nat.pos_iff_ne_zero.1 h];rfl
theorem compact_Lin {S:Blk} {w:World} {base:Nat} {v:Value} {l:List Lin} (h:Own RLin 40 S w base v l) (hbase:base≤w.heap.size) (hn:l.length≤1000) (g:FuncId) (hen:Ent1 g) (eq:Lin→Lin→Bool)
 (hp:∀ (S' T':Blk) (W:World) (x y:Lin) (cs ds:List Value),RLin.rd S' W cs x→RLin.rd T' W ds y→Calls Tryz.prog g #[.agg cs.toArray,.agg ds.toArray] W fun e w'=>e= .returned (.bool (eq x y))∧Below W.heap.size W w') :
 Calls Tryz.prog 28 #[v,.func (.func g) #[] #[]] w fun e w'=>(∃ v',e= .returned v'∧Own RLin 40 S w' base v' (kept (newB eq l) l l.length)∧Kl v v' w w')∧Below base w w':=by
 by_cases h2:l.length<2
 · have HF:=hJ (kept_small eq l h2)
   have HO:=hJ h;obtain ⟨a,m,c,rfl⟩:=h.shape;obtain ⟨_,_,q,_⟩:=h.sl;rw [Value.slice.injEq] at q;obtain ⟨-,rfl,-⟩:=q;clear h;generalize hln:l.length=n at *;have h3:(n:Int)<2:=by omega
   go_enter func28,ntmps28
   go_wp2_with fail
   go_ret;exact ⟨⟨_,rfl,by rw [HF.out];exact HO.out,Kl.refl _ _⟩,zB _ _⟩
 have hl:0<l.length:=by omega
 obtain ⟨gb,c,css0,rest0,rfl,hgb,hR,hL,hlc,hcm,hsz⟩:=h.raw hl;have HR0:Hid (Raw 2 40 w gb css0 rest0):=hJ hR;have HL0:=hJ hL;have HS0:Hid (css0.length * 2+rest0.length=c * 2):=hJ hsz;have HP:=hJ hp;have HO:=hJ h;have hgl:=hR.lt;clear h hR hL hsz hp;generalize hln:l.length=n at *;have HN:=hJ hln;clear hln;have h3:¬(n:Int)<2:=by omega
 go_enter func28,ntmps28
 go_wp2_with fail
 have HT0:Hid (∀ i,i<1→newB eq l i=true):=hJ (fun i hi=>(show i=0 by omega) ▸ rfl)
 go_loopw [5] (fun kv wr=>∃ k:Nat,1≤k∧k≤n∧kv= .int .i64 k∧Hid (∀ i,i<k→newB eq l i=true)∧Below w.heap.size w wr) (fun kv _=>n - (intOf kv).toNat)
 case atStart=>exact ⟨1,zR _,by omega,rfl,HT0,zB _ _⟩
 case round =>
  obtain ⟨k,hk1,hkn,rfl,HT,hB⟩:=hrel;have HR:=hJ (HR0.out.below hB hgl);have HL:=hJ (HL0.out.below hB);by_cases hlt:k<n
  · obtain ⟨kp,rfl⟩:∃ kp,k=kp+1:=⟨k - 1,by omega⟩
    obtain ⟨csx,hix,hrx⟩:=HL.out.at_ (i:=kp+1) (by rw [HN.out];exact hlt);obtain ⟨csa,hia,hra⟩:=HL.out.at_ (i:=kp) (by rw [HN.out];omega);have HC:=hJ (fun (t:Later wr)=>HP.out _ _ t.w _ _ csx csa (RLin.below hrx t.b) (RLin.below hra t.b));have HNw:Hid (newB eq l (kp+1)= !eq (l.getD (kp+1) default) (l.getD kp default)):=hJ (newB_at (by omega));obtain ⟨_,rfl,ax,cx,rfl,hsx⟩:=hrx;obtain ⟨_,rfl,aa,ca,rfl,hsa⟩:=hra;have x0:=HR.out.cell hix 0 _ rfl;have x1:=HR.out.cell hix 1 _ rfl;have a0:=HR.out.cell hia 0 _ rfl;have a1:=HR.out.cell hia 1 _ rfl;rw [Nat.add_zero] at x0 a0;have X0:=Later.cell x0;have X1:=Later.cell x1;have A0:=Later.cell a0;have A1:=Later.cell a1;have hki:(((kp+1:Nat):Int) - 1)=(kp:Int):=by omega
    have hkz:(kp:Int)+1<(n:Int):=by omega
    have hkz0:(kp:Int)<(n:Int):=by omega
    clear x0 x1 a0 a1 hix hia hsx hsa;generalize l.getD (kp+1) default=x at *;generalize l.getD kp default=a at *;cases hq:eq x a with
    | false =>
      rw [hq] at HC;have HNw2:newB eq l (kp+1)=true:=by rw [HNw.out,hq];rfl
      have HT2:Hid (∀ i,i<kp+1+1→newB eq l i=true):=hJ (upto HT.out HNw2);clear HNw2;clear hq
      go_wp2_with fail
      refine kAC (by kernel_rfl) (by kernel_rfl) ?_
      repeat (go_big_quiet_step (first | fail | exact Later.call (HC.out _)))
      refine wpQuiet_nil ?_;rintro _ ⟨t9,rfl⟩;have HBq:Hid (Below wr.heap.size wr t9.w):=hJ t9.b;generalize t9.w=wq at *
      go_wp2_with fail
      go_roundw
      case rel=>exact ⟨kp+1+1,by omega,by omega,by go_num,HT2,hB.trans (HBq.out.mono hB.size)⟩
      case measure=>simp [intOf];omega
    | true =>
      rw [hq] at HC;have HNw:Hid (newB eq l (kp+1)=false):=hJ (by rw [HNw.out,hq];rfl);clear hq
      go_wp2_with fail
      refine kAC (by kernel_rfl) (by kernel_rfl) ?_
      repeat (go_big_quiet_step (first | fail | exact Later.call (HC.out _)))
      refine wpQuiet_nil ?_;rintro _ ⟨t9,rfl⟩;have HBq:Hid (Below wr.heap.size wr t9.w):=hJ t9.b;generalize t9.w=wq at *;clear X0 X1 A0 A1 HC;have HK0:Hid (KeepAt (newB eq l) l l (kp+1)):=hJ (KeepAt.same (by rw [HN.out];omega) HT.out);have HKl0:Hid ((kept (newB eq l) l (kp+1)).length=kp+1):=hJ (by rw [kept_all _ _ _ (by rw [HN.out];omega) HT.out,zN,HN.out];omega);have HK1:=hJ (HK0.out.skip HNw.out);have HKl1:Hid ((kept (newB eq l) l (kp+1+1)).length=kp+1):=hJ (by rw [kB7,if_neg (by rw [HNw.out];decide)];exact HKl0.out);have HR1:=hJ (HR.out.below HBq.out HR.out.lt);have HL1:=hJ (HL.out.below HBq.out);have hB1:Kb gb w wq:=(Kb.refl gb w).later (hB.trans (HBq.out.mono hB.size));have hkc:¬c=kp+1:=by omega
      clear HK0 HKl0 HNw HT HR HL HO
      go_wp2_with fail
      go_loopw [5,7] (fun kv jv wr=>∃ (kk j2:Nat) (M:List Lin) (css:List (List Value)) (rest:List Value),1≤j2∧kp+1+j2≤n∧kk<kp+1+j2∧kv= .int .i64 kk∧jv= .int .i64 j2∧Hid ((kept (newB eq l) l (kp+1+j2)).length=kk)∧Hid (KeepAt (newB eq l) l M (kp+1+j2))∧Hid (M.getD (kp+j2) default=l.getD (kp+j2) default)∧Hid (Raw 2 40 wr gb css rest)∧Hid (Lies RLin S wr gb css M)∧Hid (css.length * 2+rest.length=c * 2)∧Kb gb w wr) (fun _ jv _=>n - (intOf jv).toNat)
      case atStart=>exact ⟨kp+1,1,_,_,_,zR _,by omega,by omega,by go_num,rfl,HKl1,HK1,hJ rfl,HR1,HL1,HS0,hB1⟩
      case round =>
       clear HK1 HKl1 HR1 HL1 hB1 HBq hB;obtain ⟨kk,j2,M,css,rest,hj1,hjn,hkk,rfl,rfl,HKl,HK,HPr,HR,HL,HS,hB⟩:=hrel;have HMl:Hid (M.length=n):=hJ (by rw [HK.out.len];exact HN.out);have hsz:=hB.size;have hgl:=HR.out.lt;by_cases hlj:kp+1+j2<n
       · obtain ⟨jp,rfl⟩:∃ jp,j2=jp+1:=⟨j2 - 1,by omega⟩
         obtain ⟨csx,hix,hrx⟩:=HL.out.at_ (i:=kp+1+(jp+1)) (by rw [HMl.out];exact hlj);obtain ⟨csa,hia,hra⟩:=HL.out.at_ (i:=kp+1+jp) (by rw [HMl.out];omega);obtain ⟨csk,hik,hrk⟩:=HL.out.at_ (i:=kk) (by rw [HMl.out];omega);rw [HK.out.at_ _ (zR _)] at hrx;rw [show kp+1+jp=kp+(jp+1) by omega,HPr.out] at hra;have HX:=hJ hrx;have HC:=hJ (fun (t:Later wr)=>HP.out _ _ t.w _ _ csx csa (RLin.below hrx t.b) (RLin.below hra t.b))
         have HNw:Hid (newB eq l (kp+1+(jp+1))= !eq (l.getD (kp+1+(jp+1)) default) (l.getD (kp+(jp+1)) default)):=hJ (by
          rw [newB_at (by omega),show kp+1+(jp+1) - 1=kp+(jp+1) by omega])
         have HSk:Hid (newB eq l (kp+1+(jp+1))=false→KeepAt (newB eq l) l M (kp+1+(jp+1+1))∧(kept (newB eq l) l (kp+1+(jp+1+1))).length=kk):=hJ (fun q=>⟨HK.out.skip q,by
          rw [show kp+1+(jp+1+1)=kp+1+(jp+1)+1 by omega,kB7,if_neg (by rw [q];decide)];exact HKl.out⟩)
         have HPt:Hid (newB eq l (kp+1+(jp+1))=true→KeepAt (newB eq l) l (M.set kk (l.getD (kp+1+(jp+1)) default)) (kp+1+(jp+1+1))∧(kept (newB eq l) l (kp+1+(jp+1+1))).length=kk+1):=hJ (fun q=>⟨by
          have:=HK.out.put (by rw [HN.out];exact hlj) q;rwa [HKl.out] at this,by
          rw [show kp+1+(jp+1+1)=kp+1+(jp+1)+1 by omega,kB7,if_pos q,zP,HKl.out];rfl⟩)
         have HPr1:Hid (M.getD (kp+(jp+1+1)) default=l.getD (kp+(jp+1+1)) default):=hJ (HK.out.at_ _ (by omega))
         have HPr2:Hid ((M.set kk (l.getD (kp+1+(jp+1)) default)).getD (kp+(jp+1+1)) default=l.getD (kp+(jp+1+1)) default):=hJ (by
          rw [← HPr1.out,zD,List.getElem?_set_ne (by omega),zD])
         obtain ⟨_,rfl,ax,cx,rfl,hsx⟩:=hrx;obtain ⟨_,rfl,aa,ca,rfl,hsa⟩:=hra;obtain ⟨_,rfl,ak,ck,rfl,_⟩:=hrk;have x0:=HR.out.cell hix 0 _ rfl;have x1:=HR.out.cell hix 1 _ rfl;have a0:=HR.out.cell hia 0 _ rfl;have a1:=HR.out.cell hia 1 _ rfl;rw [show (kp+1+(jp+1)) * 2+0=(kp+1) * 2+(jp+1) * 2 by omega] at x0;rw [show (kp+1+(jp+1)) * 2+1=(kp+1) * 2+(jp+1) * 2+1 by omega] at x1;rw [show (kp+1+jp) * 2+0=(kp+1) * 2+jp * 2 by omega] at a0;rw [show (kp+1+jp) * 2+1=(kp+1) * 2+jp * 2+1 by omega] at a1;have HX0:=hJ x0;have HX1:=hJ x1;have HIK:=hJ hik;have X0:=Later.cell x0;have X1:=Later.cell x1;have A0:=Later.cell a0;have A1:=Later.cell a1;have hcl:css.length=n:=by rw [HL.out.1];exact HMl.out
         have HCl:=hJ hcl;have hji:(((jp+1:Nat):Int) - 1)=(jp:Int):=by omega
         have hjz:(jp:Int)+1<(n:Int) - ((kp:Int)+1):=by omega
         have hjz0:(jp:Int)<(n:Int) - ((kp:Int)+1):=by omega
         clear x0 x1 a0 a1 hix hia hik hsx hsa hcl;generalize l.getD (kp+1+(jp+1)) default=x at *;generalize l.getD (kp+(jp+1)) default=a at *;generalize M.getD kk default=y at *;cases hq:eq x a with
         | true =>
           rw [hq] at HC;have HSk:=hJ (HSk.out (by rw [HNw.out,hq];rfl));clear hq HPt HNw HPr2
           go_wp2_with fail
           refine kAC (by kernel_rfl) (by kernel_rfl) ?_
           repeat (go_big_quiet_step (first | fail | exact Later.call (HC.out _)))
           refine wpQuiet_nil ?_;rintro _ ⟨t9,rfl⟩;have HBq:Hid (Below wr.heap.size wr t9.w):=hJ t9.b;generalize t9.w=wq at *
           go_wp2_with fail
           go_roundw
           case rel=>exact ⟨kk,jp+1+1,M,css,rest,by omega,by omega,by omega,rfl,by go_num,hJ HSk.out.2,hJ HSk.out.1,HPr1,hJ (HR.out.below HBq.out hgl),hJ (HL.out.below HBq.out),HS,hB.later HBq.out⟩
           case measure=>simp [intOf];omega
         | false =>
           rw [hq] at HC;have HPt:=hJ (HPt.out (by rw [HNw.out,hq];rfl));clear hq HSk HNw HPr1
           go_wp2_with fail
           refine kAC (by kernel_rfl) (by kernel_rfl) ?_
           repeat (go_big_quiet_step (first | fail | exact Later.call (HC.out _)))
           refine wpQuiet_nil ?_;rintro _ ⟨t9,rfl⟩;have HBq:Hid (Below wr.heap.size wr t9.w):=hJ t9.b;generalize t9.w=wq at *;clear X0 X1 A0 A1 HC;have HR4:=hJ (HR.out.below HBq.out hgl);have x0:=kAE HX0.out _ HBq.out;have x1:=kAE HX1.out _ HBq.out;have k0:=HR4.out.cell HIK.out 0 _ rfl;have k1:=HR4.out.cell HIK.out 1 _ rfl;rw [Nat.add_zero] at k0;have f0:=HR4.out.fz (kk * 2);have f1:=HR4.out.fz (kk * 2+1);have hkz2:(kk:Int)<(n:Int):=by omega
           go_wp2_with fail
           go_roundw
           case rel=>exact ⟨kk+1,jp+1+1,M.set kk x,_,rest,by omega,by omega,by omega,by go_num,by go_num,hJ HPt.out.2,hJ HPt.out.1,HPr2,hJ (HR4.out.put2 (i:=kk) (by rw [HCl.out];omega) _ _),hJ ((((HL.out.below HBq.out).self _ _).self _ _).set kk (RLin.frame (RLin.below HX.out HBq.out) (fun q hq _=>(kAA (fun e=>hq.2 e.symm)).trans (kAA (fun e=>hq.2 e.symm))))),hJ (by rw [List.length_set];exact HS.out),((hB.later HBq.out).set _ _).set _ _⟩
           case measure=>simp [intOf];omega
       · have hjn2:kp+1+j2=n:=by omega
         have hcl:css.length=n:=by rw [HL.out.1];exact HMl.out
         obtain ⟨vs,hclr⟩:=kIS wr gb (kk * 2) (n - kk) (c - kk) (by omega) (fun i hi=>HR.out.some_cell (by rw [hcl];have:=HS.out;omega)) (fun i hi=>HR.out.fz _);obtain ⟨rest',hR',hr'⟩:=Raw.setCells vs (HR.out.take kk) (o:=kk * 2) (by rw [zN];omega);have HR':=hJ hR';have HFk:Hid (M.take kk=kept (newB eq l) l n):=hJ (by have:=HK.out.front;rw [HKl.out,hjn2] at this;exact this);have HFl:Hid ((kept (newB eq l) l n).length=kk):=hJ (by rw [← HFk.out,zN,HMl.out];omega);have HL':Hid (Lies RLin S (wr.setCells gb (kk * 2) vs) gb (css.take kk) (kept (newB eq l) l n)):=hJ (by rw [← HFk.out];exact (HL.out.take kk).frame (fun q _ hne _=>kF1 gb vs wr _ q hne))
         have HS':Hid ((css.take kk).length * 2+rest'.length=c * 2):=hJ (by
          have h1:=HS.out;rw [hr',zP,kBD (m:=2) (fun cs hc=>HR.out.len cs (List.mem_of_mem_drop hc)),List.length_drop,zN];omega)
         have hkc2:¬c=kk:=by omega
         have hjz:¬(j2:Int)<(n:Int) - ((kp:Int)+1):=by omega
         clear hR' hr' hcl
         go_wp2_with fail
         go_ret;have hO:=HR'.out.own HL'.out hgb (by rw [HFl.out];omega) hcm HS'.out;rw [HFl.out] at hO;exact ⟨⟨_,rfl,hO,(Kb.sets vs hB _).kl _ _ _ _⟩,(Kb.sets vs hB _).below hgb hbase⟩
  · obtain rfl:k=n:=by omega
    have HF:Hid (kept (newB eq l) l k=l):=hJ (by rw [kept_all _ _ _ (by rw [HN.out];exact zR _) HT.out,zT (by rw [HN.out];exact zR _)])
    go_wp2_with fail
    go_ret;exact ⟨⟨_,rfl,by rw [HF.out];exact HO.out.below hB,Kl.below hB⟩,hB.mono hbase⟩
theorem insSort_Lin0 (a:Option Addr) (c:Nat) (w:World) (g:FuncId):Calls Tryz.prog 126 #[.slice a 0 c,.int .i64 0,.int .i64 0,.func (.func g) #[] #[]] w fun e w'=>e= .returned (.tuple #[])∧w=w':=by
 go_enter func126,ntmps126
 go_wp2_with fail
 go_loopw [8] (fun i wr=>i= .int .i64 1∧w=wr) (fun _ _=>0)
 case atStart=>exact ⟨rfl,rfl⟩
 case round =>
  obtain ⟨rfl,rfl⟩:=hrel
  go_wp2_with fail
  go_end0;exact ⟨rfl,rfl⟩
def SrtedV (S:Blk) (base:Nat) (cmp:Lin→Lin→Int) (l:List Lin) (v:Value) (w w':World):Prop:=∃ m,m.Perm l∧Le cmp m∧Own RLin 40 S w' base v m∧Kl v v w w'
theorem insSort_LinA {S:Blk} {w:World} {base:Nat} {v:Value} {l:List Lin} (h:Own RLin 40 S w base v l) (hbase:base≤w.heap.size) (hn:l.length≤12) (g:FuncId) (hen:Ent1 g) (cmp:Lin→Lin→Int) (hc:PreC cmp)
 (hcmp:∀ (S' T':Blk) (W:World) (x y:Lin) (cs ds:List Value),RLin.rd S' W cs x→RLin.rd T' W ds y→Calls Tryz.prog g #[.agg cs.toArray,.agg ds.toArray] W fun e w'=>e= .returned (.int .i64 (cmp x y))∧Below W.heap.size W w') :
 Calls Tryz.prog 126 #[v,.int .i64 0,.int .i64 l.length,.func (.func g) #[] #[]] w fun e w'=>(e= .returned (.tuple #[])∧SrtedV S base cmp l v w w')∧Below base w w':=by
 by_cases hl:0<l.length
 · exact insSort_Lin h hbase hl (by omega) g hen cmp hc hcmp
 · obtain rfl:l=[]:=zL (by omega)
   obtain ⟨a,c,rfl,_⟩:=h.sl;refine (insSort_Lin0 a c w g).mono ?_;rintro e _ ⟨rfl,rfl⟩;exact ⟨⟨rfl,[],List.Perm.refl _,List.Pairwise.nil,h,Kl.refl _ _⟩,zB _ _⟩
theorem pdq_Lin {S:Blk} {w:World} {base:Nat} {v:Value} {l:List Lin} (h:Own RLin 40 S w base v l) (hbase:base≤w.heap.size) (hn:l.length≤12) (lim:Int) (g:FuncId) (hen:Ent1 g) (cmp:Lin→Lin→Int) (hc:PreC cmp)
 (hcmp:∀ (S' T':Blk) (W:World) (x y:Lin) (cs ds:List Value),RLin.rd S' W cs x→RLin.rd T' W ds y→Calls Tryz.prog g #[.agg cs.toArray,.agg ds.toArray] W fun e w'=>e= .returned (.int .i64 (cmp x y))∧Below W.heap.size W w') :
 Calls Tryz.prog 73 #[v,.int .i64 0,.int .i64 l.length,.int .i64 lim,.func (.func g) #[] #[]] w fun e w'=>(e= .returned (.tuple #[])∧SrtedV S base cmp l v w w')∧Below base w w':=by
 have HI:=hJ (insSort_LinA h hbase hn g hen cmp hc hcmp);obtain ⟨a,m,c,rfl⟩:=h.shape;clear h hcmp hc;generalize SrtedV S base cmp l (.slice a m c) w=Q at *;generalize l.length=n at *;have h12:(n:Int)≤12:=by omega
 go_enter func73,ntmps73
 go_wp2_with fail
 go_loopw [1,2] (fun a b wr=>a= .int .i64 0∧b= .int .i64 n∧w=wr) (fun _ _ _=>0)
 case atStart=>exact ⟨rfl,rfl,rfl⟩
 case round =>
  obtain ⟨rfl,rfl,rfl⟩:=hrel
  go_wp2_with fail
  refine HI.out.mono ?_;rintro e w1 ⟨⟨rfl,hs⟩,hb⟩;have HS:=hJ hs;clear hs
  go_wp2_with fail
  refine bodyPost_ret (results_none rfl _ _ _) rfl ?_;exact ⟨⟨rfl,HS.out⟩,hb⟩
theorem sortFunc_Lin {S:Blk} {w:World} {base:Nat} {v:Value} {l:List Lin} (h:Own RLin 40 S w base v l) (hbase:base≤w.heap.size) (hn:l.length≤12) (g:FuncId) (hen:Ent1 g) (cmp:Lin→Lin→Int) (hc:PreC cmp)
 (hcmp:∀ (S' T':Blk) (W:World) (x y:Lin) (cs ds:List Value),RLin.rd S' W cs x→RLin.rd T' W ds y→Calls Tryz.prog g #[.agg cs.toArray,.agg ds.toArray] W fun e w'=>e= .returned (.int .i64 (cmp x y))∧Below W.heap.size W w') :
 Calls Tryz.prog 26 #[v,.func (.func g) #[] #[]] w fun e w'=>(e= .returned (.tuple #[])∧SrtedV S base cmp l v w w')∧Below base w w':=by
 have HI:=hJ (fun lim=>pdq_Lin h hbase hn lim g hen cmp hc hcmp);obtain ⟨a,m,c,rfl⟩:=h.shape;obtain ⟨_,_,q,_⟩:=h.sl;rw [Value.slice.injEq] at q;obtain ⟨-,rfl,-⟩:=q;clear h hcmp hc;generalize SrtedV S base cmp l _ w=Q at *;generalize l.length=n at *;have wr:IntKind.u64.wrap (n:Int)=n:=by simp [IntKind.wrap,IntKind.bits,IntKind.signed];omega
 go_enter func26,ntmps26
 go_wp2_with fail
 refine (Tryz.bits_Len (n:Int) _ (by omega) (by omega)).mono ?_;rintro e w1 ⟨rfl,rfl⟩
 go_wp2_with fail
 refine (HI.out _).mono ?_;rintro e w2 ⟨⟨rfl,hs⟩,hb⟩;have HS:=hJ hs;clear hs
 go_wp2_with fail
 go_end0;exact ⟨⟨rfl,HS.out⟩,hb⟩
theorem kIW {S:Blk} {w:World} {base:Nat} {v:Value} {l:List Bnd} (h:Own RBnd 42 S w base v l) (hbase:base≤w.heap.size) (hl:l.length≤1000000) (kind:Int) (name:Str) :
 Calls Tryz.prog 37 #[v,.int .i64 kind,.string name] w fun e w'=>(∃ v',e= .returned v'∧Own RBnd 42 S w' base v' (addV l kind name)∧Kl v v' w w')∧Below base w w':=by
 obtain ⟨a,c,rfl,hsl⟩:=h.sl;have HO:=hJ h;have HC:=hJ (kEF l a _ c w hsl kind name);have HN:Hid (addV l kind name=if 0≤kAW l kind name then l else l++[bare kind name]):=hJ rfl;clear h hsl;generalize kAW l kind name=d at *;by_cases hd:0≤d
 · have HF:Hid (addV l kind name=l):=hJ (by rw [HN.out,if_pos hd])
   go_enter func37,ntmps37
   go_wp2_with fail
   refine (HC.out).mono ?_;rintro e _ ⟨rfl,rfl⟩
   go_wp2_with fail
   go_ret;exact ⟨⟨_,rfl,by rw [HF.out];exact HO.out,Kl.refl _ _⟩,zB _ _⟩
 · have HF:Hid (addV l kind name=l++[bare kind name]):=hJ (by rw [HN.out,if_neg hd])
   have hd2:d<0:=by omega
   go_enter func37,ntmps37
   go_wp2_with fail
   refine HC.out.mono ?_;rintro e _ ⟨rfl,rfl⟩
   go_wp2_with (at_builtin;refine kA1 kCS rfl _ _ rfl base _ _ rfl (HO.out.alloc _) _ (bare kind name) [.int .i64 kind,.string name,.int .i64 0,.slice none 0 0,.string ⟨#[]⟩,.slice none 0 0,.string ⟨#[]⟩] rfl ⟨_,_,rfl,⟨none,0,rfl,Sl.empty _ _ _⟩,⟨none,0,rfl,Sl.empty _ _ _⟩⟩ (kA3 42 (by (simp only [kAJ,kAF,Array.getElem?_push,Array.size_push];simp))) (by omega) (by unfold maxLen;omega) (by simp;omega) ?_;intro v9 w9 hown9 hb9 hk9)
   go_ret;exact ⟨⟨_,rfl,by rw [HF.out];exact hown9,(Kl.below ((zB _ _).alloc (zR _) _)).trans hk9.kl (by simp)⟩,((zB _ _).alloc hbase _).trans hb9⟩
theorem types_with {T:Blk} {w:World} {base:Nat} {v:Value} {l:List Bnd} (h:Own RBnd 42 (fun _=>False) w base v l) (hbase:base≤w.heap.size) (m:List Bnd) (a:Option Addr) (n c:Nat) (hm:Sl RBnd T w a n c m) (hT:Apart T w v) (hb:Bare m) (hl:l.length+n≤1000000) :
 Calls Tryz.prog 68 #[v,.slice a n c] w fun e w'=>(∃ v',e= .returned v'∧Own RBnd 42 (fun _=>False) w' base v' (addBs l m)∧Kl v v' w w')∧Below base w w':=by
 have hml:=hm.len;have HML:=hJ hml;have HO:=hJ h;have HS:=hJ hm;have HT:=hJ hT;have HBare:=hJ hb;have hsm:=hm.small;obtain ⟨a0,m0,c0,rfl⟩:=h.shape;clear hml h hm hT hb;go_enter func68,ntmps68
 go_wp2_with fail
 go_loopw [0,9] (fun v i wr=>∃ (j:Nat) (v0:Value),j≤n∧i= .int .i64 j∧v0=v∧Hid (Own RBnd 42 (fun _=>False) wr base v (addBs l (m.take j)))∧Hid (Sl RBnd T wr a n c m)∧Hid (Apart T wr v)∧Hid (Kl (.slice a0 m0 c0) v w wr)∧Below base w wr) (fun _ i _=>n - (intOf i).toNat)
 case atStart=>exact ⟨0,_,Nat.zero_le _,rfl,rfl,HO,HS,HT,hJ (Kl.refl _ _),zB _ _⟩
 case round =>
  obtain ⟨j,v0,hj,rfl,rfl,HO,HS,HT,HK,hB⟩:=hrel;have hsz:=hB.size;by_cases hlt:j<n
  · obtain ⟨b,off,rfl,hbW,_⟩:=HS.out.form j hlt
    obtain ⟨t,d,hr,⟨⟨ta,tc,rfl,_⟩,⟨da,dc,rfl,_⟩⟩,e0,e1,e2,e3,e4,e5,e6⟩:=HS.out.bnd j hlt;have hjm:j<m.length:=by rw [HML.out];exact hlt
    have HStep:=hJ (addBs_next (l0:=l) hjm);have HBx:=hJ (HBare.out _ (kAM hjm))
    have HLen:Hid ((addBs l (m.take j)).length≤999999):=hJ (by
     have q1:=addBs_len (m.take j) l;rw [zN] at q1;omega)
    clear hjm;generalize m.getD j default=x at *;have HR:=hJ (fun (S':Blk) (w':World)=>bare_rd (S':=S') (w':=w') hr HBx.out);obtain ⟨a3,m3,c3,rfl⟩:=HO.out.shape;obtain ⟨_,_,q3,hsl3⟩:=HO.out.sl;rw [Value.slice.injEq] at q3;obtain ⟨rfl,rfl,rfl⟩:=q3;have HC:=hJ (fun (W:World) (hW:Below wr.heap.size wr W)=>kFE _ a3 _ c3 W (hsl3.below hW) x.kind x.v);have HOld:=hJ (fun q=>addV_old (l:=addBs l (m.take j)) (k:=x.kind) (v:=x.v) q);have HNew:=hJ (fun q=>addV_new (l:=addBs l (m.take j)) (k:=x.kind) (v:=x.v) q);clear hsl3 hr;generalize addBs l (m.take j)=l1 at *;generalize kAW l1 x.kind x.v=q at *;have HA:Hid (Below wr.heap.size wr (wr.alloc (.cells #[.int .i64 x.kind,.string x.v,.int .i64 x.dim.const,.slice ta x.dim.terms.length tc,.string x.row.row,.slice da x.row.dims.length dc,.string x.elem] 42))):=hJ ((zB _ _).alloc (zR _) _);have HP:=hJ (Bx.fresh wr 42 [.int .i64 x.kind,.string x.v,.int .i64 x.dim.const,.slice ta x.dim.terms.length tc,.string x.row.row,.slice da x.row.dims.length dc,.string x.elem]);by_cases hq:q<0
    · have HNew:Hid (addV l1 x.kind x.v=l1++[x]):=hJ (by rw [HNew.out hq,← HBx.out])
      go_wp2_with fail
      refine (HC.out _ HA.out).mono ?_;rintro e w4 ⟨rfl,hb4⟩;have HP4:=hJ (HP.out.below hb4 (by simp));have p0:=HP4.out.cell 0 _ rfl;have p1:=HP4.out.cell 1 _ rfl;have p2:=HP4.out.cell 2 _ rfl;have p3:=HP4.out.cell 3 _ rfl;have p4:=HP4.out.cell 4 _ rfl;have p5:=HP4.out.cell 5 _ rfl;have p6:=HP4.out.cell 6 _ rfl;have HB4:=hJ (HA.out.trans (hb4.mono HA.out.size));have hz4:=HB4.out.size
      go_wp2_with (at_builtin;refine kA1 kCS rfl _ _ rfl base _ _ rfl ((HO.out.below HB4.out).alloc _) _ x [.int .i64 x.kind,.string x.v,.int .i64 x.dim.const,.slice ta x.dim.terms.length tc,.string x.row.row,.slice da x.row.dims.length dc,.string x.elem] rfl (HR.out _ _) (kA3 42 (by (simp only [kAJ,kAF,Array.getElem?_push,Array.size_push];simp))) (by have:=HLen.out;omega) (by have:=HLen.out;unfold maxLen;omega) (by simp;omega) ?_;intro v9 w9 hown9 hb9 hk9;obtain ⟨a9,m9,c9,rfl⟩:=hown9.shape)
      have HK9:Hid (Kl _ _ wr w9):=hJ ((Kl.below (HB4.out.alloc HB4.out.size _)).trans hk9.kl (by simp;omega));have hz9:wr.heap.size≤w9.heap.size:=by have:=hb9.size;simp at this;omega
      go_roundw
      case rel=>exact ⟨j+1,_,by omega,by go_num,rfl,hJ (by rw [HStep.out,HNew.out];exact hown9),hJ (HS.out.kl HT.out HK9.out),hJ (HT.out.kl HK9.out hz9),hJ (HK.out.trans HK9.out hsz),(hB.trans ((HB4.out.alloc HB4.out.size _).mono (by omega))).trans hb9⟩
      case measure=>simp [intOf];omega
    · have HOld:=hJ (HOld.out (by omega))
      have hq2:0≤q:=by omega
      clear hq
      go_wp2_with fail
      refine (HC.out _ HA.out).mono ?_;rintro e w4 ⟨rfl,hb4⟩;have HB4:=hJ (HA.out.trans (hb4.mono HA.out.size));have hz4:=HB4.out.size
      go_wp2_with fail
      go_roundw
      case rel=>exact ⟨j+1,_,by omega,by go_num,rfl,hJ (by rw [HStep.out,HOld.out];exact HO.out.below HB4.out),hJ (HS.out.below HB4.out),hJ (HT.out.below hz4),hJ (HK.out.trans (Kl.below HB4.out) hsz),hB.trans (HB4.out.mono (by omega))⟩
      case measure=>simp [intOf];omega
  · have HAll:Hid (m.take j=m):=hJ (zT (by rw [HML.out];omega))
    obtain ⟨a3,m3,c3,rfl⟩:=HO.out.shape
    go_wp2_with fail
    go_ret;exact ⟨⟨_,rfl,by have:=HO.out;rwa [HAll.out] at this,HK.out⟩,hB⟩
end Go.Proofs.YtcjfagnlmlkedaaGreatDoor
