/- The claim's texts, part 6: contracts of the functions that the statement reaches, and what they say of the data. -/
import Derived.Test.YtdjggkiagmlfpaaGreatDoorU5
set_option maxRecDepth 100000
set_option maxHeartbeats 8000000
set_option linter.all false
namespace Go.Proofs.YtdjggkiagmlfpaaGreatDoor
open Go.Proofs.Tryz
open Go.RowKit
theorem kJT (s p:Str) (hs:s.size≤1000000) (hp0:0<p.size) (hp:p.size≤1000) (w:World) :
 Calls Tryz.prog 59 #[.string s,.string p] w fun e w'=>e= .returned (.tuple #[.string (cutL s p),.string (cutR s p),.bool (cutB s p)])∧Below w.heap.size w w':=by
 have HL:Hid (cutL s p=if cutB s p then s.extract 0 (cutN s p) else s):=hJ rfl;have HR:Hid (cutR s p=if cutB s p then s.extract (cutN s p+p.size) s.size else ⟨#[]⟩):=hJ rfl;have HB:Hid (cutB s p=decide (cutN s p+p.size≤s.size)):=hJ rfl;have HN:Hid (cutN s p=kBW (fun i=> !(kBF s i==0 && (s.extract i (i+p.size)).toList==p.toList)) (s.size+1 - p.size) 0):=hJ rfl;generalize cutN s p=rn at *;go_enter func59,ntmps59
 go_wp2_with fail
 go_loopw [7,8] (fun vd vi W=>∃ k:Nat,k≤s.size+1 - p.size∧vi= .int .i64 k∧vd= .int .i64 (kBF s k)∧Hid (rn=kBW (fun i=> !(kBF s i==0 && (s.extract i (i+p.size)).toList==p.toList)) (s.size+1 - p.size) k)∧Hid (Below w.heap.size w W)) (fun _ vi _=>s.size+1 - p.size - (intOf vi).toNat)
 case atStart=>exact ⟨0,Nat.zero_le _,rfl,rfl,HN,hJ (Below.refl _ _)⟩
 case round =>
  obtain ⟨k,hk,rfl,rfl,HK,HBl⟩:=hrel;have hdp:=deepN_le s k;by_cases hlt:k<s.size+1 - p.size
  · have q1:decide ((k:Int)+(p.size:Int)≤(s.size:Int))=true:=decide_eq_true (by omega)
    have g0:=kBH s k (by omega);have HD:=hJ (kCW s k);have hto:((k:Int)+(p.size:Int)).toNat=k+p.size:=by omega
    have HY:=hJ (fun h=>kDT (P:=fun i=> !(kBF s i==0 && (s.extract i (i+p.size)).toList==p.toList)) hlt h);have HNo:=hJ (fun h=>kB0 (P:=fun i=> !(kBF s i==0 && (s.extract i (i+p.size)).toList==p.toList)) (n:=s.size+1 - p.size) (k:=k) h);generalize bt s k=c at *;obtain ⟨x,hx⟩:∃ x,s.extract k (k+p.size)=x:=⟨_,rfl⟩
    obtain ⟨d,hd⟩:∃ d,d=kBF s k:=⟨_,rfl⟩
    have HP:Hid ((!(kBF s k==0 && (s.extract k (k+p.size)).toList==p.toList))= !(d==0 && x.toList==p.toList)):=hJ (by rw [← hd,← hx]);rw [← hd] at HD hdp ⊢;clear hd;by_cases hc:(d==0 && x.toList==p.toList)=true
    · obtain ⟨rfl,hc2⟩:d=0∧(x.toList==p.toList)=true:=by
       rw [Bool.and_eq_true,beq_iff_eq] at hc;exact hc
      have hrn:rn=k:=by rw [HK.out];exact HNo.out (by rw [HP.out,hc];rfl)
      have hrb:cutB s p=true:=by rw [HB.out,hrn];exact decide_eq_true (by omega)
      have HL2:Hid (cutL s p=s.extract 0 k):=hJ (by rw [HL.out,hrb,hrn];rfl);have HR2:Hid (cutR s p=s.extract (k+p.size) s.size):=hJ (by rw [HR.out,hrb,hrn];rfl);have HB2:=hJ hrb;clear HL HR HB HN HK HD HY HNo hc hrn hrb HP;have b0:(0:Int)≤(k:Int):=by omega
      have b1:(k:Int)≤(s.size:Int):=by omega
      have b2:(0:Int)≤(k:Int)+(p.size:Int):=by omega
      have b3:(k:Int)+(p.size:Int)≤(s.size:Int):=by omega
      have b4:IntKind.i64.wrap ((k:Int)+(p.size:Int))=(k:Int)+(p.size:Int):=by rw [IntKind.wrap_i64];omega
      go_upto_region 6 with fail
      refine kAA (by kernel_rfl) (by kernel_rfl) ?_
      repeat (go_big_quiet_step (fail))
      refine wpQuiet_nil ?_;rintro _ ⟨t9,rfl⟩
      go_wp2_with fail
      go_returns
      exact ⟨by rw [HL2.out,HR2.out,HB2.out];rfl,HBl.out.trans (t9.b.mono HBl.out.size)⟩
    · have HK2:Hid (rn=kBW (fun i=> !(kBF s i==0 && (s.extract i (i+p.size)).toList==p.toList)) (s.size+1 - p.size) (k+1)):=hJ (by rw [HK.out];exact HY.out (by rw [HP.out,Bool.eq_false_iff.2 hc];rfl))
      clear HK HY HNo HP;by_cases hd:d=0
      · have hx2:(x.toList==p.toList)=false:=by
         cases hq:(x.toList==p.toList) with
         | false=>rfl
         | true=>exact absurd (by rw [hd,hq];rfl) hc
        clear hc;subst hd
        go_upto_region 7 with fail
        by_cases h91:c=91
        · subst h91
          have HN2:Hid (kBF s (k+1)=0+1):=hJ (by rw [HD.out];rfl);clear HD
          go_wp2_with fail
          go_roundw
          case rel=>exact ⟨k+1,by omega,by go_num,(by rw [HN2.out];try rfl),HK2,HBl⟩
          case measure=>simp [intOf];omega
        · by_cases h93:c=93
          · subst h93
            have HN2:Hid (kBF s (k+1)=0 - 1):=hJ (by rw [HD.out];rfl);clear HD
            go_wp2_with fail
            go_roundw
            case rel=>exact ⟨k+1,by omega,by go_num,(by rw [HN2.out];try rfl),HK2,HBl⟩
            case measure=>simp [intOf];omega
          · have HN2:Hid (kBF s (k+1)=0):=hJ (by rw [HD.out,if_neg (by simpa using h91),if_neg (by simpa using h93)])
            have e91:(c==91)=false:=beq_eq_false_iff_ne.2 h91;have e93:(c==93)=false:=beq_eq_false_iff_ne.2 h93;clear HD h91 h93
            go_wp2_with fail
            go_roundw
            case rel=>exact ⟨k+1,by omega,by go_num,(by rw [HN2.out];try rfl),HK2,HBl⟩
            case measure=>simp [intOf];omega
      · have e0:(d==0)=false:=beq_eq_false_iff_ne.2 hd
        clear hc hd
        go_upto_region 7 with fail
        by_cases h91:c=91
        · subst h91
          have HN2:Hid (kBF s (k+1)=d+1):=hJ (by rw [HD.out];rfl);clear HD
          go_wp2_with fail
          go_roundw
          case rel=>exact ⟨k+1,by omega,by go_num,(by rw [HN2.out];try rfl),HK2,HBl⟩
          case measure=>simp [intOf];omega
        · by_cases h93:c=93
          · subst h93
            have HN2:Hid (kBF s (k+1)=d - 1):=hJ (by rw [HD.out];rfl);clear HD
            go_wp2_with fail
            go_roundw
            case rel=>exact ⟨k+1,by omega,by go_num,(by rw [HN2.out];try rfl),HK2,HBl⟩
            case measure=>simp [intOf];omega
          · have HN2:Hid (kBF s (k+1)=d):=hJ (by rw [HD.out,if_neg (by simpa using h91),if_neg (by simpa using h93)])
            have e91:(c==91)=false:=beq_eq_false_iff_ne.2 h91;have e93:(c==93)=false:=beq_eq_false_iff_ne.2 h93;clear HD h91 h93
            go_wp2_with fail
            go_roundw
            case rel=>exact ⟨k+1,by omega,by go_num,(by rw [HN2.out];try rfl),HK2,HBl⟩
            case measure=>simp [intOf];omega
  · have q1:decide ((k:Int)+(p.size:Int)≤(s.size:Int))=false:=decide_eq_false (by omega)
    have hrn:rn=k:=by rw [HK.out];exact kBO (by omega)
    have hrb:cutB s p=false:=by rw [HB.out,hrn];exact decide_eq_false (by omega)
    have HL2:Hid (cutL s p=s):=hJ (by rw [HL.out,hrb];rfl);have HR2:Hid (cutR s p=⟨#[]⟩):=hJ (by rw [HR.out,hrb];rfl);have HB2:=hJ hrb;clear HL HR HB HN HK hrn hrb
    go_wp2_with fail
    go_returns
    exact ⟨by rw [HL2.out,HR2.out,HB2.out];rfl,HBl.out⟩
def optS (o:Option Sch):Sch:=match o with
 | none=>kA8
 | some x=>x
def TOk (y:Str):Prop:=y.size≤10000∧∀ x ∈ kA5 (kB4 (y.extract 0 (kD0 y))) comS,x.size≤900
def SOk (s:Str):Prop:=s.size≤1000000∧(∀ y ∈ kC9 (kGG s),TOk y)∧TOk (cut1 (cut2 s arrS) whrS)∧∀ y ∈ kA5 (cut2 (cut2 s arrS) whrS) comS,y.size≤900
theorem kG4 {s:Str} {t:Typ} (h:kC2 s=some t) (hs:TOk s) (w:World) (E:EnvM w) :
 Calls Tryz.prog 54 #[.string s] w fun e w'=>(∃ ds,e= .returned (.tuple #[.agg ds.toArray,.int .i64 0])∧RTyp.rd (fun k=>w.heap.size≤k) w' ds t)∧Below w.heap.size w w':=by
 have:=types_Parse s hs.1 hs.2 w E;rw [h] at this;exact this
theorem kG5 {s:Str} (h:kC2 s=none) (hs:TOk s) (w:World) (E:EnvM w) :
 Calls Tryz.prog 54 #[.string s] w fun e w'=>(∃ ds,e= .returned (.tuple #[.agg ds.toArray,.int .i64 6])∧RTyp.rd (fun k=>w.heap.size≤k) w' ds kBL)∧Below w.heap.size w w':=by
 have:=types_Parse s hs.1 hs.2 w E;rw [h] at this;exact this
theorem typT_sz {t:Typ} (h:kAE t=true):szT t:=by
 obtain ⟨h1,h2⟩:=kDA h;exact ⟨Nat.le_trans (elemB_sz h1) (by decide),readH_sz (kF8 h2)⟩
theorem kI1 (s p:Str) (hs:s.size≤1000000) (w:World) (E:EnvM w) :
 Calls Tryz.prog 26 #[.string s,.string p] w fun e w'=>e= .returned (.tuple #[.string (cut1 s p),.string (cut2 s p),.bool (cut3 s p)])∧Below w.heap.size w w':=by
 obtain ⟨m,hm⟩:=E.len;refine (Tryz.strings_Cut s p m w (Nat.lt_of_le_of_lt hs (by decide)) hm).mono ?_;rintro e w' ⟨he,n,rfl⟩;exact ⟨he,below_drewN (Below.refl _ _) n⟩
theorem kKH (s p:Str):(cut1 s p).size≤s.size:=by
 rcases Lib.indexB_cases s p with h | ⟨i,h,hr⟩
 · rw [(cut_miss h).1];exact Nat.le_refl _
 · have:cut1 s p=s.extract 0 i:=(Lib.cutB_hit s p i h).1
   rw [this,ByteArray.size_extract];omega
theorem kHW (s p:Str):(cut2 s p).size≤s.size:=by
 rcases Lib.indexB_cases s p with h | ⟨i,h,hr⟩
 · rw [(cut_miss h).2.1];exact Nat.zero_le _
 · have:cut2 s p=s.extract (i+p.size) s.size:=(Lib.cutB_hit s p i h).2.1
   rw [this,ByteArray.size_extract];omega
theorem kJN (s p:Str) (hs:s.size≤1000000) (hp:1≤p.size) (w:World) (E:EnvM w) :
 Calls Tryz.prog 24 #[.string s,.string p] w fun e w'=>e= .returned (.slice (some ⟨w.heap.size,0,none⟩) (kA5 s p).length (kA5 s p).length)∧w'=w.alloc (.cells ((kA5 s p).map Value.string).toArray 9):=by
 obtain ⟨m,hm⟩:=E.len;have hlen:(kA5 s p).length=Lib.countB s p+1:=Lib.splitB_all p hp 0 _ _ rfl;rw [hlen];exact Tryz.strings_Split s p m w (Nat.lt_of_le_of_lt hs (by decide)) hm hp
theorem splitS_len (s p:Str):(kA5 s p).length≤s.size+2:=by
 have:=Lib.splitB_length_le p 0 (Lib.countB s p) s;have h2:=Lib.count_le s.data.toList p.data.toList;have e:s.data.toList.length=s.size:=by rw [Array.length_toList];rfl
 unfold kA5;rw [e] at h2;have:Lib.countB s p=Lib.count s.data.toList p.data.toList:=rfl;omega
theorem listT_cons (x:Str) (l:List Str) (acc:List Typ):kHN (x :: l) acc=match kC2 x with | none=>none | some t=>kHN l (acc++[t]):=rfl
theorem listL_cons (x:Str) (l:List Str) (acc:List Lin):kHO (x :: l) acc=if kES (kBA (kBV x) x)=0 then kHO l (acc++[kER (kBA (kBV x) x)]) else none:=rfl
theorem kKE (s p:Str):(cutP s p).size≤s.size:=by
 unfold cutP Lib.trimPrefix
 show (if _ then _ else _:List UInt8).toArray.size≤_
 rw [List.size_toArray]
 split
 · rw [List.length_drop,Array.length_toList];show s.size - _≤_;omega
 · rw [Array.length_toList];exact Nat.le_refl _
theorem parF_sz (s:Str):(kC9 s).length≤s.size+1∧0<(kC9 s).length:=by
 have:=parF_len s s.size;unfold kC9;rw [List.length_append,List.length_singleton];omega
theorem kFW (s:Str) (hs:SOk s) (w:World) (E:EnvM w) :
 Calls Tryz.prog 27 #[.string s] w fun e w'=>(∃ ds,e= .returned (.tuple #[.agg ds.toArray,.int .i64 (optE (kDY s))])∧RSch.rd (fun k=>w.heap.size≤k) w' ds (optS (kDY s)))∧Below w.heap.size w w':=by
 have HE:=hJ E;have h8:8≤w.heap.size:=E.env.big;obtain ⟨hsz,hk1,hk2,hk3⟩:=hs;have HR:Hid (kDY s=if cut3 s arrS && hasP (cut1 s arrS) parS then (match kHN (if (kGG s).toList.isEmpty then [] else kC9 (kGG s)) [] with | none=>none | some ps=>match kC2 (cut1 (cut2 s arrS) whrS) with | none=>none | some t=>match (if cut3 (cut2 s arrS) whrS then kHO (kA5 (cut2 (cut2 s arrS) whrS) comS) [] else some []) with | none=>none | some ls=>kII s ⟨ps,t,ls⟩) else none):=hJ rfl;have HC1:=hJ (fun W E=>kI1 s arrS hsz W E);have HC2:=fun W=>Tryz.strings_CutPrefix (cut1 s arrS) ⟨#[40]⟩ W
 change ∀ W,Calls _ _ _ W fun e w'=>e= .returned (.tuple #[.string (kGG s),.bool (hasP (cut1 s arrS) parS)])∧_ at HC2
 replace HC2:=hJ HC2;have h1z:=kKH s arrS;have h2z:=kHW s arrS;have HC3:=hJ (fun W E=>kI1 (cut2 s arrS) whrS (Nat.le_trans h2z hsz) W E);have h3z:=kHW (cut2 s arrS) whrS;have hhz:(kGG s).size≤s.size:=Nat.le_trans (kKE _ _) h1z;have HCS:=hJ (fun W E=>kJN (cut2 (cut2 s arrS) whrS) comS (Nat.le_trans h3z (Nat.le_trans h2z hsz)) (by decide) W E);have HSL:Hid ((kA5 (cut2 (cut2 s arrS) whrS) comS).length≤1000002):=hJ (by have:=splitS_len (cut2 (cut2 s arrS) whrS) comS;omega);have HK1:=hJ hk1;have HK2:=hJ hk2;have HK3:=hJ hk3;have HPL:=parF_sz (kGG s);have HCP:=hJ (fun W=>types_params (kGG s) (Nat.le_trans hhz hsz) W);clear E hk1 hk2 hk3 h1z h2z h3z;generalize kDY s=res at *;have HRb:=hJ (Bx.fresh w 57 [.slice none 0 0,.string ⟨#[]⟩,.string ⟨#[]⟩,.slice none 0 0,.slice none 0 0]);have HB0:=hJ ((Below.refl _ w).alloc (Nat.le_refl _) (.cells #[.slice none 0 0,.string ⟨#[]⟩,.string ⟨#[]⟩,.slice none 0 0,.slice none 0 0] 57));go_enter func27,ntmps27
 go_wp2_with fail
 have HE0:=hJ (HE.out.keep HB0.out h8);generalize w.alloc (.cells #[.slice none 0 0,.string ⟨#[]⟩,.string ⟨#[]⟩,.slice none 0 0,.slice none 0 0] 57)=W0 at *;refine (HC1.out _ HE0.out).mono ?_;rintro e W1 ⟨rfl,hb1⟩;have HRs:=hJ (HRb.out.below hb1 HRb.out.lt);have HBl:=hJ (HB0.out.trans (hb1.mono HB0.out.size));clear HC1 HRb HB0 HE0 hb1
 go_wp2_with fail
 refine (HC2.out _).mono ?_;rintro e W9 ⟨rfl,rfl⟩;clear HC2;by_cases hok:(cut3 s arrS && hasP (cut1 s arrS) parS)=true
 · replace HR:Hid (res=match kHN (if (kGG s).toList.isEmpty then [] else kC9 (kGG s)) [] with | none=>none | some ps=>match kC2 (cut1 (cut2 s arrS) whrS) with | none=>none | some t=>match (if cut3 (cut2 s arrS) whrS then kHO (kA5 (cut2 (cut2 s arrS) whrS) comS) [] else some []) with | none=>none | some ls=>kII s ⟨ps,t,ls⟩):=hJ (by rw [HR.out,if_pos hok])
   obtain ⟨ok1,ok2⟩:cut3 s arrS=true∧hasP (cut1 s arrS) parS=true:=by simpa using hok
   rw [ok1,ok2];generalize cut1 (cut2 s arrS) whrS=rt at *;generalize cut3 (cut2 s arrS) whrS=sm at *;generalize kA5 (cut2 (cut2 s arrS) whrS) comS=L2 at *;generalize cut2 (cut2 s arrS) whrS=wh at *;generalize cut2 s arrS=rs at *;generalize cut1 s arrS=hd0 at *;generalize kC9 (kGG s)=L at *;generalize kGG s=hd at *;clear hok ok1 ok2;have HBX:=hJ (Bx.fresh W9 57 [.slice none 0 0,.string ⟨#[]⟩,.string ⟨#[]⟩,.slice none 0 0,.slice none 0 0]);have hgw:w.heap.size<W9.heap.size:=HRs.out.lt;replace HRs:=hJ (HRs.out.alloc (.cells #[.slice none 0 0,.string ⟨#[]⟩,.string ⟨#[]⟩,.slice none 0 0,.slice none 0 0] 57));replace HBl:=hJ (HBl.out.alloc (by omega) (.cells #[.slice none 0 0,.string ⟨#[]⟩,.string ⟨#[]⟩,.slice none 0 0,.slice none 0 0] 57))
   go_upto_if 43 with fail
   generalize hg:W9.heap.size=g at *;generalize W9.alloc (.cells #[.slice none 0 0,.string ⟨#[]⟩,.string ⟨#[]⟩,.slice none 0 0,.slice none 0 0] 57)=W at *;clear hg W9
   go_cut [4] (fun v4 W2=>∃ (ps:List Typ) (va:Option Addr) (vm vc B:Nat),v4= .string hd∧g<B∧B≤W2.heap.size∧ps.length≤s.size+1∧Hid (kHN (if hd.toList.isEmpty then [] else L) []=some ps)∧Hid (∀ t ∈ ps,kAE t=true)∧Hid (Bx W2 g 57 [.slice va vm vc,.string ⟨#[]⟩,.string ⟨#[]⟩,.slice none 0 0,.slice none 0 0])∧Hid (Own RTyp 54 (fun q=>B≤q) W2 B (.slice va vm vc) ps)∧Hid (Bx W2 w.heap.size 57 [.slice none 0 0,.string ⟨#[]⟩,.string ⟨#[]⟩,.slice none 0 0,.slice none 0 0])∧Hid (Below w.heap.size w W2))
   case first =>
    cases hem:hd.toList.isEmpty with
    | true =>
      go_wp2_with fail
      go_meet
      exact ⟨[],none,0,0,W.heap.size,rfl,HBX.out.lt,Nat.le_refl _,Nat.zero_le _,hJ (by rw [hem];rfl),hJ (fun t ht=>by cases ht),HBX,hJ (Own.nil _ _ _ _ _),HRs,HBl⟩
    | false =>
      have hgW:=HBX.out.lt
      go_wp2_with fail
      refine (HCP.out _).mono ?_;rintro e W5 ⟨⟨v5,rfl,hown5⟩,hb5⟩;obtain ⟨gL,cL,rfl,hgL,hgL2,hsl5,hfz5⟩:=hown5.open_ HPL.2
      have HG5:Hid (∀ k,k<L.length→W5.cell? ⟨gL,k,none⟩=some (.string (L.getD k default))):=hJ (fun k hk=>by
       obtain ⟨cs,hr,hc⟩:=hsl5.cells k (L.getD k default) (getD_at hk);obtain rfl:cs=[.string (L.getD k default)]:=hr;have:=hc 0 _ rfl
       rwa [show RStr.size=1 from rfl,Nat.mul_one,Nat.add_zero,Nat.zero_add] at this)
      replace HBX:=hJ (HBX.out.below hb5 HBX.out.lt);replace HRs:=hJ (HRs.out.below hb5 HRs.out.lt);replace HBl:=hJ (HBl.out.trans (hb5.mono HBl.out.size));have hg5:=HBX.out.lt;have hL1:=HPL.1;obtain ⟨tot,hto⟩:∃ tot,tot=kHN L []:=⟨_,rfl⟩
      have HR2:Hid (tot=none→res=none):=hJ (fun h=>by rw [HR.out,hem,if_neg Bool.false_ne_true,← hto,h]);have HTo:=hJ hto.symm;have HTo0:=HTo;clear hto hown5 hsl5 hb5 HCP HC3 HCS
      go_wp2_with fail
      go_loopw [47] (fun i wr=>∃ (k:Nat) (ps:List Typ) (va:Option Addr) (vm vc:Nat),k≤L.length∧i= .int .i64 k∧ps.length≤k∧W5.heap.size≤wr.heap.size∧Hid (kHN (L.drop k) ps=tot)∧Hid (∀ t ∈ ps,kAE t=true)∧Hid (wr.heap[gL]? =W5.heap[gL]?)∧Hid (Bx wr g 57 [.slice va vm vc,.string ⟨#[]⟩,.string ⟨#[]⟩,.slice none 0 0,.slice none 0 0])∧Hid (Own RTyp 54 (fun q=>W5.heap.size≤q) wr W5.heap.size (.slice va vm vc) ps)∧Hid (Bx wr w.heap.size 57 [.slice none 0 0,.string ⟨#[]⟩,.string ⟨#[]⟩,.slice none 0 0,.slice none 0 0])∧Hid (Below w.heap.size w wr)) (fun i _=>L.length - (intOf i).toNat)
      case atStart=>exact ⟨0,[],none,0,0,Nat.zero_le _,rfl,Nat.le_refl _,Nat.le_refl _,HTo,hJ (fun t ht=>by cases ht),hJ rfl,HBX,hJ (Own.nil _ _ _ _ _),HRs,HBl⟩
      case round =>
       clear HBX HRs HBl HTo;obtain ⟨k,ps,va,vm,vc,hk,rfl,hpl,hwz,HRun,HV,HGb,HBX,HOwn,HRs,HBl⟩:=hrel;by_cases hlt:k<L.length
       · have y0:wr.cell? ⟨gL,k,none⟩=some (.string (L.getD k default)):=by rw [World.cell?_of_block (w:=W5) HGb.out];exact HG5.out k hlt
         have hxm:=kAJ hlt;have HTx:=hJ (HK1.out _ hxm);have HDr:Hid (L.drop k=L.getD k default :: L.drop (k+1)):=hJ (drop_at hlt);replace HRun:Hid ((match kC2 (L.getD k default) with | none=>none | some t=>kHN (L.drop (k+1)) (ps++[t]))=tot):=hJ (by rw [← HRun.out,HDr.out,listT_cons]);have HEr:=hJ (HE.out.keep HBl.out h8);clear HDr hxm;generalize L.getD k default=x at *;cases hrx:kC2 x with
         | none =>
           have HC:=hJ (kG5 hrx HTx.out wr HEr.out);have HF:Hid (res=none):=hJ (HR2.out (by rw [← HRun.out,hrx]));clear HRun hrx
           go_wp2_with fail
           refine HC.out.mono ?_;rintro e w4 ⟨⟨ds,rfl,ty,rfl,⟨ay,cy,rfl,hy⟩⟩,hb4⟩;have hz4:=hb4.size;have HT:=hJ (Bx.fresh w4 54 [.string (kBL).elem,.string (kBL).shape.row,.slice ay (kBL).shape.dims.length cy]);have t0:=HT.out.cell 0 _ rfl;have t1:=HT.out.cell 1 _ rfl;have t2:=HT.out.cell 2 _ rfl;have HY:=hJ (hy.below ((Below.refl _ _).alloc (Nat.le_refl _) (.cells #[.string (kBL).elem,.string (kBL).shape.row,.slice ay (kBL).shape.dims.length cy] 54)));have HB5:=hJ (hb4.alloc hz4 (.cells #[.string (kBL).elem,.string (kBL).shape.row,.slice ay (kBL).shape.dims.length cy] 54));have HOld:=HOwn;replace HBX:=hJ (HBX.out.below HB5.out HBX.out.lt);replace HOwn:=hJ (HOwn.out.below HB5.out);replace HRs:=hJ (HRs.out.below HB5.out HRs.out.lt);replace HBl:=hJ (HBl.out.trans (HB5.out.mono HBl.out.size));replace HGb:=hJ ((HB5.out.block gL (by omega)).trans HGb.out);clear hb4 hy HC y0;have z0:=HRs.out.cell 0 _ rfl;have z1:=HRs.out.cell 1 _ rfl;have z2:=HRs.out.cell 2 _ rfl;have z3:=HRs.out.cell 3 _ rfl;have z4:=HRs.out.cell 4 _ rfl;have f0:=HRs.out.fz 0;have f1:=HRs.out.fz 1;have f2:=HRs.out.fz 2;have f3:=HRs.out.fz 3;have f4:=HRs.out.fz 4;have hl0:=HRs.out.lt;have HZz:=hJ (((((HRs.out.set 0 (.slice none 0 0)).set 1 (.string ⟨#[]⟩)).set 2 (.string ⟨#[]⟩)).set 3 (.slice none 0 0)).set 4 (.slice none 0 0));have s0:=HZz.out.cell 0 _ rfl;have s1:=HZz.out.cell 1 _ rfl;have s2:=HZz.out.cell 2 _ rfl;have s3:=HZz.out.cell 3 _ rfl;have s4:=HZz.out.cell 4 _ rfl
           go_upto_region 12 with fail
           (try simp only []);repeat (first | go_values | go_skip | go_guarded | go_step | go_upon)
           refine bodyPost_ret (v:=.tuple #[.agg #[.slice none 0 0,.string ⟨#[]⟩,.string ⟨#[]⟩,.slice none 0 0,.slice none 0 0],.int .i64 6]) (by simp [results,results27,go_sem,s0,s1,s2,s3,s4,hl0]) rfl ?_;have HFr:Hid (∀ W,RSch.rd (fun k=>w.heap.size≤k) W [.slice none 0 0,.string ⟨#[]⟩,.string ⟨#[]⟩,.slice none 0 0,.slice none 0 0] (optS res)):=hJ (fun W=>by rw [HF.out];exact ⟨_,_,_,rfl,⟨none,0,rfl,Sl.empty RTyp _ _⟩,⟨none,0,rfl,Sl.empty RLin _ _⟩,⟨none,0,rfl,Sl.empty RLin _ _⟩⟩);exact ⟨⟨_,by rw [HF.out];rfl,HFr.out _⟩,((((HBl.out.setCell (Nat.le_refl _) _).setCell (Nat.le_refl _) _).setCell (Nat.le_refl _) _).setCell (Nat.le_refl _) _).setCell (Nat.le_refl _) _⟩
         | some t =>
           have HC:=hJ (kG4 hrx HTx.out wr HEr.out);have HNx:Hid (kHN (L.drop (k+1)) (ps++[t])=tot):=hJ (by rw [← HRun.out,hrx]);have hvt:=(kD7 hrx).1;clear HRun hrx
           go_wp2_with fail
           refine HC.out.mono ?_;rintro e w4 ⟨⟨ds,rfl,ty,rfl,⟨ay,cy,rfl,hy⟩⟩,hb4⟩;have hz4:=hb4.size;have HT:=hJ (Bx.fresh w4 54 [.string (t).elem,.string (t).shape.row,.slice ay (t).shape.dims.length cy]);have t0:=HT.out.cell 0 _ rfl;have t1:=HT.out.cell 1 _ rfl;have t2:=HT.out.cell 2 _ rfl;have HY:=hJ (hy.below ((Below.refl _ _).alloc (Nat.le_refl _) (.cells #[.string (t).elem,.string (t).shape.row,.slice ay (t).shape.dims.length cy] 54)));have HB5:=hJ (hb4.alloc hz4 (.cells #[.string (t).elem,.string (t).shape.row,.slice ay (t).shape.dims.length cy] 54));have HOld:=HOwn;replace HBX:=hJ (HBX.out.below HB5.out HBX.out.lt);replace HOwn:=hJ (HOwn.out.below HB5.out);replace HRs:=hJ (HRs.out.below HB5.out HRs.out.lt);replace HBl:=hJ (HBl.out.trans (HB5.out.mono HBl.out.size));replace HGb:=hJ ((HB5.out.block gL (by omega)).trans HGb.out);clear hb4 hy HC y0;have v0:=HBX.out.cell 0 _ rfl;have fv0:=HBX.out.fz 0
           go_wp2_with (at_builtin;refine kA4 kG0 rfl _ _ rfl W5.heap.size _ _ rfl (HOwn.out.alloc _) _ t [.string t.elem,.string t.shape.row,.slice ay t.shape.dims.length cy] rfl ⟨_,rfl,ay,cy,rfl,(HY.out.below ((Below.refl _ _).alloc (Nat.le_refl _) _)).mono (fun q hq _=>⟨by omega,fun e=>by have:=(HOld.out.block e).2;omega⟩)⟩ (kA6 54 (by (simp only [kAK,kAI,Array.getElem?_push,Array.size_push];simp))) (by omega) (by unfold maxLen;omega) (by simp;omega) ?_;intro v9 w9 hown9 hb9 hk9;obtain ⟨a9,m9,c9,rfl⟩:=hown9.shape;have HX9:=hJ ((HBX.out.alloc _).kp hk9 (HOwn.out.ne (by omega)));have HR9:=hJ ((HRs.out.alloc _).kp hk9 (HOwn.out.ne (by omega)));have z9:=HX9.out.cell 0 _ rfl;have f9:=HX9.out.fz 0;have HG9:Hid (w9.heap[gL]? =W5.heap[gL]?):=hJ ((hk9.block gL (by simp;omega) (HOwn.out.ne (by omega))).trans (((Below.refl _ _).alloc (Nat.le_refl _) _).block gL (by simp;omega) |>.trans HGb.out));have hz9:=hb9.size)
           go_roundw
           case rel=>exact ⟨k+1,ps++[t],a9,m9,c9,by omega,by go_num,by rw [List.length_append];show ps.length+1≤_;omega,by have:=hz9;simp at this ⊢;omega,HNx,hJ (fun d hd=>(List.mem_append.mp hd).elim (HV.out d) (fun q=>by rw [List.mem_singleton.mp q];exact hvt)),hJ ((kAB (a:=⟨g,0,none⟩) (by show g≠gL;omega)).trans HG9.out),hJ (HX9.out.set 0 _),hJ (hown9.set _ (fun q hq=>by show q≠g;omega) (by show g<_;omega)),hJ (HR9.out.other (by show g≠_;omega)),hJ (((HBl.out.alloc HBl.out.size _).trans (hb9.mono (by omega))).setCell (by show _≤g;omega) _)⟩
           case measure=>simp [intOf];omega
       · have hke:k=L.length:=by omega
         have HPs:Hid (kHN L []=some ps):=hJ (by rw [HTo0.out,← HRun.out,List.drop_of_length_le (by omega)];rfl)
         go_wp2_with fail
         go_meet
         exact ⟨ps,va,vm,vc,W5.heap.size,rfl,hg5,hwz,by omega,hJ (by rw [hem,if_neg Bool.false_ne_true];exact HPs.out),HV,HBX,HOwn,HRs,HBl⟩
   case rest =>
    obtain ⟨ps,pa,vm,pc,B,rfl,hgB,hBW,hpl,HPs,HVp,HBX,HOwn,HRs,HBl⟩:=hcut;generalize hwc:wc=W2 at *;clear hwc;replace HR:Hid (res=match kC2 rt with | none=>none | some t=>match (if sm then kHO L2 [] else some []) with | none=>none | some ls=>kII s ⟨ps,t,ls⟩):=hJ (by rw [HR.out,HPs.out]);obtain ⟨a9,c9,e9,hsl⟩:=HOwn.out.sl;rw [Value.slice.injEq] at e9;obtain ⟨rfl,rfl,rfl⟩:=e9;have HSp:=hJ (hsl.mono (S':=fun q=>g<q) (fun q hq _=>by rcases hq with q | q <;> omega));have HEw:=hJ (HE.out.keep HBl.out h8);clear HOwn hsl HPs HK1 HCP
    go_wp2_with fail
    refine (HC3.out _ HEw.out).mono ?_;rintro e W3 ⟨rfl,hb3⟩;replace HBX:=hJ (HBX.out.below hb3 HBX.out.lt);replace HRs:=hJ (HRs.out.below hb3 HRs.out.lt);replace HBl:=hJ (HBl.out.trans (hb3.mono HBl.out.size));replace HSp:=hJ (HSp.out.below hb3);replace HEw:=hJ (HE.out.keep HBl.out h8);have hg3:=HBX.out.lt;have hz3:=HBl.out.size;clear HC3 hb3;cases hrt:kC2 rt with
    | none =>
      have HC:=hJ (fun W E=>kG5 hrt HK2.out W E);have HF:Hid (res=none):=hJ (by rw [HR.out,hrt]);clear HR hrt HCS
      go_wp2_with fail
      refine (HC.out _ HEw.out).mono ?_;rintro e w4 ⟨⟨ds,rfl,ty,rfl,⟨ay,cy,rfl,hy⟩⟩,hb4⟩;have hz4:=hb4.size;have HT:=hJ (Bx.fresh w4 54 [.string (kBL).elem,.string (kBL).shape.row,.slice ay (kBL).shape.dims.length cy]);have t0:=HT.out.cell 0 _ rfl;have t1:=HT.out.cell 1 _ rfl;have t2:=HT.out.cell 2 _ rfl;have HY:=hJ (hy.below ((Below.refl _ _).alloc (Nat.le_refl _) (.cells #[.string (kBL).elem,.string (kBL).shape.row,.slice ay (kBL).shape.dims.length cy] 54)));have HB5:=hJ (hb4.alloc hz4 (.cells #[.string (kBL).elem,.string (kBL).shape.row,.slice ay (kBL).shape.dims.length cy] 54));replace HBX:=hJ (HBX.out.below HB5.out HBX.out.lt);replace HRs:=hJ (HRs.out.below HB5.out HRs.out.lt);replace HBl:=hJ (HBl.out.trans (HB5.out.mono HBl.out.size));replace HSp:=hJ (HSp.out.below HB5.out);clear hb4 hy HC HEw;clear HY HSp HT t0 t1 t2;have z0:=HRs.out.cell 0 _ rfl;have z1:=HRs.out.cell 1 _ rfl;have z2:=HRs.out.cell 2 _ rfl;have z3:=HRs.out.cell 3 _ rfl;have z4:=HRs.out.cell 4 _ rfl;have f0:=HRs.out.fz 0;have f1:=HRs.out.fz 1;have f2:=HRs.out.fz 2;have f3:=HRs.out.fz 3;have f4:=HRs.out.fz 4;have hl0:=HRs.out.lt;have HZz:=hJ (((((HRs.out.set 0 (.slice none 0 0)).set 1 (.string ⟨#[]⟩)).set 2 (.string ⟨#[]⟩)).set 3 (.slice none 0 0)).set 4 (.slice none 0 0));have s0:=HZz.out.cell 0 _ rfl;have s1:=HZz.out.cell 1 _ rfl;have s2:=HZz.out.cell 2 _ rfl;have s3:=HZz.out.cell 3 _ rfl;have s4:=HZz.out.cell 4 _ rfl
      go_upto_region 18 with fail
      (try simp only []);repeat (first | go_values | go_skip | go_guarded | go_step | go_upon)
      refine bodyPost_ret (v:=.tuple #[.agg #[.slice none 0 0,.string ⟨#[]⟩,.string ⟨#[]⟩,.slice none 0 0,.slice none 0 0],.int .i64 6]) (by simp [results,results27,go_sem,s0,s1,s2,s3,s4,hl0]) rfl ?_;have HFr:Hid (∀ W,RSch.rd (fun k=>w.heap.size≤k) W [.slice none 0 0,.string ⟨#[]⟩,.string ⟨#[]⟩,.slice none 0 0,.slice none 0 0] (optS res)):=hJ (fun W=>by rw [HF.out];exact ⟨_,_,_,rfl,⟨none,0,rfl,Sl.empty RTyp _ _⟩,⟨none,0,rfl,Sl.empty RLin _ _⟩,⟨none,0,rfl,Sl.empty RLin _ _⟩⟩);exact ⟨⟨_,by rw [HF.out];rfl,HFr.out _⟩,((((HBl.out.setCell (Nat.le_refl _) _).setCell (Nat.le_refl _) _).setCell (Nat.le_refl _) _).setCell (Nat.le_refl _) _).setCell (Nat.le_refl _) _⟩
    | some t =>
      have HC:=hJ (fun W E=>kG4 hrt HK2.out W E);replace HR:Hid (res=match (if sm then kHO L2 [] else some []) with | none=>none | some ls=>kII s ⟨ps,t,ls⟩):=hJ (by rw [HR.out,hrt]);have hvt:=(kD7 hrt).1;clear hrt
      go_wp2_with fail
      refine (HC.out _ HEw.out).mono ?_;rintro e w4 ⟨⟨ds,rfl,ty,rfl,⟨ay,cy,rfl,hy⟩⟩,hb4⟩;have hz4:=hb4.size;have HT:=hJ (Bx.fresh w4 54 [.string (t).elem,.string (t).shape.row,.slice ay (t).shape.dims.length cy]);have t0:=HT.out.cell 0 _ rfl;have t1:=HT.out.cell 1 _ rfl;have t2:=HT.out.cell 2 _ rfl;have HY:=hJ (hy.below ((Below.refl _ _).alloc (Nat.le_refl _) (.cells #[.string (t).elem,.string (t).shape.row,.slice ay (t).shape.dims.length cy] 54)));have HB5:=hJ (hb4.alloc hz4 (.cells #[.string (t).elem,.string (t).shape.row,.slice ay (t).shape.dims.length cy] 54));replace HBX:=hJ (HBX.out.below HB5.out HBX.out.lt);replace HRs:=hJ (HRs.out.below HB5.out HRs.out.lt);replace HBl:=hJ (HBl.out.trans (HB5.out.mono HBl.out.size));replace HSp:=hJ (HSp.out.below HB5.out);clear hb4 hy HC HEw;have v1:=HBX.out.cell 1 _ rfl;have v2:=HBX.out.cell 2 _ rfl;have v3:=HBX.out.cell 3 _ rfl;have f1:=HBX.out.fz 1;have f2:=HBX.out.fz 2;have f3:=HBX.out.fz 3;have hlo:=HBX.out.lt
      go_upto_if 82 with fail
      have hne:g≠w.heap.size:=by omega
      replace HBX:=hJ (((HBX.out.set 1 (.string t.elem)).set 2 (.string t.shape.row)).set 3 (.slice ay t.shape.dims.length cy));replace HRs:=hJ (((HRs.out.other (a:=⟨g,1,none⟩) (u:=.string t.elem) hne).other (a:=⟨g,2,none⟩) (u:=.string t.shape.row) hne).other (a:=⟨g,3,none⟩) (u:=.slice ay t.shape.dims.length cy) hne);replace HBl:=hJ (((HBl.out.setCell (show w.heap.size≤(⟨g,1,none⟩:Addr).block from Nat.le_of_lt hgw) (.string t.elem)).setCell (show w.heap.size≤(⟨g,2,none⟩:Addr).block from Nat.le_of_lt hgw) (.string t.shape.row)).setCell (show w.heap.size≤(⟨g,3,none⟩:Addr).block from Nat.le_of_lt hgw) (.slice ay t.shape.dims.length cy));replace HY:=hJ (((HY.out.frame (w':=World.setCell _ ⟨g,1,none⟩ (.string t.elem)) (fun k hk _=>kAB (by show g≠k;omega))).frame (w':=World.setCell _ ⟨g,2,none⟩ (.string t.shape.row)) (fun k hk _=>kAB (by show g≠k;omega))).frame (w':=World.setCell _ ⟨g,3,none⟩ (.slice ay t.shape.dims.length cy)) (fun k hk _=>kAB (by show g≠k;omega)));replace HSp:=hJ (((HSp.out.frame (w':=World.setCell _ ⟨g,1,none⟩ (.string t.elem)) (fun k hk _=>kAB (by show g≠k;omega))).frame (w':=World.setCell _ ⟨g,2,none⟩ (.string t.shape.row)) (fun k hk _=>kAB (by show g≠k;omega))).frame (w':=World.setCell _ ⟨g,3,none⟩ (.slice ay t.shape.dims.length cy)) (fun k hk _=>kAB (by show g≠k;omega)));replace HY:=hJ (HY.out.mono (S':=fun q=>g<q) (fun q hq _=>by omega));clear t0 t1 t2 HT v1 v2 v3 f1 f2 f3 HB5 hlo;generalize (((w4.alloc (.cells #[.string t.elem,.string t.shape.row,.slice ay t.shape.dims.length cy] 54)).setCell ⟨g,1,none⟩ (.string t.elem)).setCell ⟨g,2,none⟩ (.string t.shape.row)).setCell ⟨g,3,none⟩ (.slice ay t.shape.dims.length cy)=W6 at *
      go_cut [15] (fun v15 W=>∃ (ls:List Lin) (qa:Option Addr) (qc:Nat),v15= .bool sm∧Hid ((if sm then kHO L2 [] else some [])=some ls)∧Hid (∀ d ∈ ls,kAC d=true)∧Hid (Bx W g 57 [.slice pa ps.length pc,.string t.elem,.string t.shape.row,.slice ay t.shape.dims.length cy,.slice qa ls.length qc])∧Hid (Sl RTyp (fun q=>g<q) W pa ps.length pc ps)∧Hid (Sl RLin (fun q=>g<q) W ay t.shape.dims.length cy t.shape.dims)∧Hid (Sl RLin (fun q=>g<q) W qa ls.length qc ls)∧Hid (Bx W w.heap.size 57 [.slice none 0 0,.string ⟨#[]⟩,.string ⟨#[]⟩,.slice none 0 0,.slice none 0 0])∧Hid (Below w.heap.size w W))
      case first =>
       have hgW:=HBX.out.lt;cases sm with
       | false =>
         go_wp2_with fail
         go_meet
         exact ⟨[],none,0,rfl,hJ rfl,hJ (fun d hd=>by cases hd),HBX,HSp,HY,hJ (Sl.empty RLin _ _),HRs,HBl⟩
       | true =>
         have hL2:=HSL.out;have HEw:=hJ (HE.out.keep HBl.out h8);replace HBX:=hJ (HBX.out.alloc (.cells (L2.map Value.string).toArray 9));replace HRs:=hJ (HRs.out.alloc (.cells (L2.map Value.string).toArray 9));have HLt:=hJ (Bx.fresh W6 9 (L2.map Value.string));have hb7:=(Below.refl W6.heap.size W6).alloc (Nat.le_refl _) (.cells (L2.map Value.string).toArray 9);have hz6:w.heap.size≤W6.heap.size:=HBl.out.size;replace HBl:=hJ (HBl.out.alloc hz6 (.cells (L2.map Value.string).toArray 9));replace HSp:=hJ ((HSp.out.below hb7).mono (S':=fun q=>g<q∧q<(W6.alloc (.cells (L2.map Value.string).toArray 9)).heap.size) (fun q hq hl=>⟨hq,hl⟩));replace HY:=hJ ((HY.out.below hb7).mono (S':=fun q=>g<q∧q<(W6.alloc (.cells (L2.map Value.string).toArray 9)).heap.size) (fun q hq hl=>⟨hq,hl⟩));have hz7:=HLt.out.lt;obtain ⟨tot,hto⟩:∃ tot,tot=kHO L2 []:=⟨_,rfl⟩
         have HR2:Hid (tot=none→res=none):=hJ (fun h=>by rw [HR.out,if_pos rfl,← hto,h]);have HTo:=hJ hto.symm;have HTo0:=HTo;clear hto hb7
         go_wp2_with fail
         refine (HCS.out _ HEw.out).mono ?_;rintro e W0' ⟨rfl,rfl⟩;clear HCS HEw
         go_wp2_with fail
         generalize W6.alloc (.cells (L2.map Value.string).toArray 9)=W7 at *
         go_loopw [86] (fun i wr=>∃ (k:Nat) (ls:List Lin) (qa:Option Addr) (qm qc:Nat),k≤L2.length∧i= .int .i64 k∧ls.length≤k∧W7.heap.size≤wr.heap.size∧Hid (kHO (L2.drop k) ls=tot)∧Hid (∀ d ∈ ls,kAC d=true)∧Hid (Bx wr W6.heap.size 9 (L2.map Value.string))∧Hid (Bx wr g 57 [.slice pa ps.length pc,.string t.elem,.string t.shape.row,.slice ay t.shape.dims.length cy,.slice qa qm qc])∧Hid (Own RLin 49 (fun q=>W7.heap.size≤q) wr W7.heap.size (.slice qa qm qc) ls)∧Hid (Sl RTyp (fun q=>g<q∧q<W7.heap.size) wr pa ps.length pc ps)∧Hid (Sl RLin (fun q=>g<q∧q<W7.heap.size) wr ay t.shape.dims.length cy t.shape.dims)∧Hid (Bx wr w.heap.size 57 [.slice none 0 0,.string ⟨#[]⟩,.string ⟨#[]⟩,.slice none 0 0,.slice none 0 0])∧Hid (Below w.heap.size w wr)) (fun i _=>L2.length - (intOf i).toNat)
         case atStart=>exact ⟨0,[],none,0,0,Nat.zero_le _,rfl,Nat.le_refl _,Nat.le_refl _,HTo,hJ (fun t ht=>by cases ht),HLt,HBX,hJ (Own.nil _ _ _ _ _),HSp,HY,HRs,HBl⟩
         case round =>
          clear HBX HRs HBl HTo HSp HY HLt;obtain ⟨k,ls,qa,qm,qc,hk,rfl,hll,hwz,HRun,HV,HLt,HBX,HOwn,HSp,HY,HRs,HBl⟩:=hrel;by_cases hlt:k<L2.length
          · have y0:wr.cell? ⟨W6.heap.size,k,none⟩=some (.string (L2.getD k default)):=HLt.out.cell k _ (by rw [List.getElem?_map,getD_at hlt];rfl)
            have hxz:=HK3.out _ (kAJ hlt);have HDr:Hid (L2.drop k=L2.getD k default :: L2.drop (k+1)):=hJ (drop_at hlt);replace HRun:Hid ((if kES (kBA (kBV (L2.getD k default)) (L2.getD k default))=0 then kHO (L2.drop (k+1)) (ls++[kER (kBA (kBV (L2.getD k default)) (L2.getD k default))]) else none)=tot):=hJ (by rw [← HRun.out,HDr.out,listL_cons]);clear HDr;generalize L2.getD k default=x at *;have HC2:=hJ (linear_Parse x hxz wr (HE.out.env.keep HBl.out h8));have HVl:=hJ (lossX_sz (kBA (kBV x) x));generalize kES (kBA (kBV x) x)=er at *;generalize kER (kBA (kBV x) x)=y at *
            go_wp2_with fail
            refine HC2.out.mono ?_;rintro e w4 ⟨⟨ds,rfl,ty,rfl,aw,cw,rfl,hy⟩,hb4⟩;have HT:=hJ (Bx.fresh w4 49 [.int .i64 y.const,.slice aw y.terms.length cw]);have t0:=HT.out.cell 0 _ rfl;have t1:=HT.out.cell 1 _ rfl;have hz4:=hb4.size;have HYy:Hid (Sl kCB (fun k=>wr.heap.size≤k) (w4.alloc (.cells #[.int .i64 y.const,.slice aw y.terms.length cw] 49)) aw y.terms.length cw y.terms):=hJ (hy.below ((Below.refl _ _).alloc (Nat.le_refl _) _));have HB5:Hid (Below wr.heap.size wr (w4.alloc (.cells #[.int .i64 y.const,.slice aw y.terms.length cw] 49))):=hJ (hb4.alloc hz4 _);have HOld:=HOwn;replace HBX:=hJ (HBX.out.below HB5.out HBX.out.lt);replace HOwn:=hJ (HOwn.out.below HB5.out);replace HLt:=hJ (HLt.out.below HB5.out HLt.out.lt);replace HSp:=hJ (HSp.out.below HB5.out);replace HY:=hJ (HY.out.below HB5.out);replace HRs:=hJ (HRs.out.below HB5.out HRs.out.lt);replace HBl:=hJ (HBl.out.trans (HB5.out.mono HBl.out.size));have v4:=HBX.out.cell 4 _ rfl;have fv4:=HBX.out.fz 4;clear hb4 hy HC2 y0;by_cases her:er=0
            · subst her
              have HNx:Hid (kHO (L2.drop (k+1)) (ls++[y])=tot):=hJ (by rw [← HRun.out,if_pos rfl]);have hvy:Hid (kAC y=true):=hJ (HVl.out rfl);clear HRun HVl
              go_wp2_with (at_builtin;refine kA4 kFA rfl _ _ rfl W7.heap.size _ _ rfl (HOwn.out.alloc _) _ y [.int .i64 y.const,.slice aw y.terms.length cw] rfl ⟨_,rfl,aw,cw,rfl,(HYy.out.below ((Below.refl _ _).alloc (Nat.le_refl _) _)).mono (fun q hq _=>⟨by omega,fun e=>by have:=(HOld.out.block e).2;omega⟩)⟩ (kA6 49 (by (simp only [kAK,kAI,Array.getElem?_push,Array.size_push];simp))) (by omega) (by unfold maxLen;omega) (by simp;omega) ?_;intro v9 w9 hown9 hb9 hk9;obtain ⟨a9,m9,c9,rfl⟩:=hown9.shape;have HX9:=hJ ((HBX.out.alloc _).kp hk9 (HOwn.out.ne (by omega)));have HP9:=hJ ((HLt.out.alloc _).kp hk9 (HOwn.out.ne (by omega)));have HR9:=hJ ((HRs.out.alloc _).kp hk9 (HOwn.out.ne (by omega)));have HS9:=hJ ((HSp.out.below ((Below.refl _ _).alloc (Nat.le_refl _) _)).frame (w':=w9) (fun q hq hl=>hk9.block q hl (HOwn.out.ne hq.2)));have HY9:=hJ ((HY.out.below ((Below.refl _ _).alloc (Nat.le_refl _) _)).frame (w':=w9) (fun q hq hl=>hk9.block q hl (HOwn.out.ne hq.2)));have z9:=HX9.out.cell 4 _ rfl;have f9:=HX9.out.fz 4;have hz9:=hb9.size)
              go_roundw
              case rel=>exact ⟨k+1,ls++[y],a9,m9,c9,by omega,by go_num,by rw [List.length_append];show ls.length+1≤_;omega,by have:=hz9;simp at this ⊢;omega,HNx,hJ (fun d hd=>(List.mem_append.mp hd).elim (HV.out d) (fun q=>by rw [List.mem_singleton.mp q];exact hvy.out)),hJ (HP9.out.other (by show g≠_;omega)),hJ (HX9.out.set 4 _),hJ (hown9.set _ (fun q hq=>by show q≠g;omega) (by show g<_;omega)),hJ (HS9.out.frame (fun q hq _=>kAB (by show g≠q;omega))),hJ (HY9.out.frame (fun q hq _=>kAB (by show g≠q;omega))),hJ (HR9.out.other (by show g≠_;omega)),hJ (((HBl.out.alloc HBl.out.size _).trans (hb9.mono (by omega))).setCell (by show _≤g;omega) _)⟩
              case measure=>simp [intOf];omega
            · have HF:Hid (res=none):=hJ (HR2.out (by rw [← HRun.out,if_neg her]))
              have n9:(er != 0)=true:=bne_iff_ne.2 her;clear HRun her;have z0:=HRs.out.cell 0 _ rfl;have z1:=HRs.out.cell 1 _ rfl;have z2:=HRs.out.cell 2 _ rfl;have z3:=HRs.out.cell 3 _ rfl;have z4:=HRs.out.cell 4 _ rfl;have f0:=HRs.out.fz 0;have f1:=HRs.out.fz 1;have f2:=HRs.out.fz 2;have f3:=HRs.out.fz 3;have f4:=HRs.out.fz 4;have hl0:=HRs.out.lt;have HZz:=hJ (((((HRs.out.set 0 (.slice none 0 0)).set 1 (.string ⟨#[]⟩)).set 2 (.string ⟨#[]⟩)).set 3 (.slice none 0 0)).set 4 (.slice none 0 0));have s0:=HZz.out.cell 0 _ rfl;have s1:=HZz.out.cell 1 _ rfl;have s2:=HZz.out.cell 2 _ rfl;have s3:=HZz.out.cell 3 _ rfl;have s4:=HZz.out.cell 4 _ rfl
              go_upto_region 26 with fail
              (try simp only []);repeat (first | go_values | go_skip | go_guarded | go_step | go_upon)
              refine bodyPost_ret (v:=.tuple #[.agg #[.slice none 0 0,.string ⟨#[]⟩,.string ⟨#[]⟩,.slice none 0 0,.slice none 0 0],.int .i64 6]) (by simp [results,results27,go_sem,s0,s1,s2,s3,s4,hl0]) rfl ?_;have HFr:Hid (∀ W,RSch.rd (fun k=>w.heap.size≤k) W [.slice none 0 0,.string ⟨#[]⟩,.string ⟨#[]⟩,.slice none 0 0,.slice none 0 0] (optS res)):=hJ (fun W=>by rw [HF.out];exact ⟨_,_,_,rfl,⟨none,0,rfl,Sl.empty RTyp _ _⟩,⟨none,0,rfl,Sl.empty RLin _ _⟩,⟨none,0,rfl,Sl.empty RLin _ _⟩⟩);exact ⟨⟨_,by rw [HF.out];rfl,HFr.out _⟩,((((HBl.out.setCell (Nat.le_refl _) _).setCell (Nat.le_refl _) _).setCell (Nat.le_refl _) _).setCell (Nat.le_refl _) _).setCell (Nat.le_refl _) _⟩
          · have hke:k=L2.length:=by omega
            have HLs:Hid (kHO L2 []=some ls):=hJ (by rw [HTo0.out,← HRun.out,List.drop_of_length_le (by omega)];rfl);obtain ⟨a9,c9,e9,hsl⟩:=HOwn.out.sl;rw [Value.slice.injEq] at e9;obtain ⟨rfl,rfl,rfl⟩:=e9
            go_wp2_with fail
            go_meet
            exact ⟨ls,qa,qc,rfl,hJ (by first | exact HLs.out | exact (if_pos trivial).trans HLs.out | simpa using HLs.out),HV,HBX,hJ (HSp.out.mono (fun q hq _=>hq.1)),hJ (HY.out.mono (fun q hq _=>hq.1)),hJ (hsl.mono (fun q hq _=>by rcases hq with q | q <;> omega)),HRs,HBl⟩
      case rest =>
       obtain ⟨ls,qa,qc,rfl,HLs,HVl,HBX,HSp,HY,HQ,HRs,HBl⟩:=hcut;generalize hwc:wc=W8 at *;clear hwc;replace HR:Hid (res=kII s ⟨ps,t,ls⟩):=hJ (by rw [HR.out,HLs.out]);have HR3:Hid (res=if kAH ⟨ps,t,ls⟩ && (kBR ⟨ps,t,ls⟩).toList==s.toList then some ⟨ps,t,ls⟩ else none):=hJ HR.out;have hgW:=HBX.out.lt;have HRd:Hid (RSch.rd (fun q=>g<q) W8 [.slice pa ps.length pc,.string t.elem,.string t.shape.row,.slice ay t.shape.dims.length cy,.slice qa ls.length qc] ⟨ps,t,ls⟩):=hJ ⟨_,_,_,rfl,⟨pa,pc,rfl,HSp.out⟩,⟨ay,cy,rfl,HY.out⟩,⟨qa,qc,rfl,HQ.out⟩⟩;have HEr:=hJ (HE.out.env.keep HBl.out h8);have HC:=hJ (kFV HRd.out ⟨fun t ht=>typT_sz (HVp.out t ht),typT_sz hvt,fun d hd=>kFU (HVl.out d hd)⟩ HEr.out);have v0:=HBX.out.cell 0 _ rfl;have v1:=HBX.out.cell 1 _ rfl;have v2:=HBX.out.cell 2 _ rfl;have v3:=HBX.out.cell 3 _ rfl;have v4:=HBX.out.cell 4 _ rfl;clear HCS HSp HY HQ HLs HR;cases hv:kAH ⟨ps,t,ls⟩ with
       | false =>
         have HF:Hid (res=none):=hJ (by rw [HR3.out,hv];rfl);rw [hv,if_neg Bool.false_ne_true] at HC;generalize kCG ⟨ps,t,ls⟩=o at *;clear HRd HR3
         go_wp2_with fail
         refine (HC.out).mono ?_;rintro e w1 ⟨rfl,hb⟩;replace HRs:=hJ (HRs.out.below hb HRs.out.lt);replace HBl:=hJ (HBl.out.trans (hb.mono HBl.out.size));have z0:=HRs.out.cell 0 _ rfl;have z1:=HRs.out.cell 1 _ rfl;have z2:=HRs.out.cell 2 _ rfl;have z3:=HRs.out.cell 3 _ rfl;have z4:=HRs.out.cell 4 _ rfl;have f0:=HRs.out.fz 0;have f1:=HRs.out.fz 1;have f2:=HRs.out.fz 2;have f3:=HRs.out.fz 3;have f4:=HRs.out.fz 4;have hl0:=HRs.out.lt;have HZz:=hJ (((((HRs.out.set 0 (.slice none 0 0)).set 1 (.string ⟨#[]⟩)).set 2 (.string ⟨#[]⟩)).set 3 (.slice none 0 0)).set 4 (.slice none 0 0));have s0:=HZz.out.cell 0 _ rfl;have s1:=HZz.out.cell 1 _ rfl;have s2:=HZz.out.cell 2 _ rfl;have s3:=HZz.out.cell 3 _ rfl;have s4:=HZz.out.cell 4 _ rfl
         go_upto_region 31 with fail
         (try simp only []);repeat (first | go_values | go_skip | go_guarded | go_step | go_upon)
         refine bodyPost_ret (v:=.tuple #[.agg #[.slice none 0 0,.string ⟨#[]⟩,.string ⟨#[]⟩,.slice none 0 0,.slice none 0 0],.int .i64 6]) (by simp [results,results27,go_sem,s0,s1,s2,s3,s4,hl0]) rfl ?_;have HFr:Hid (∀ W,RSch.rd (fun k=>w.heap.size≤k) W [.slice none 0 0,.string ⟨#[]⟩,.string ⟨#[]⟩,.slice none 0 0,.slice none 0 0] (optS res)):=hJ (fun W=>by rw [HF.out];exact ⟨_,_,_,rfl,⟨none,0,rfl,Sl.empty RTyp _ _⟩,⟨none,0,rfl,Sl.empty RLin _ _⟩,⟨none,0,rfl,Sl.empty RLin _ _⟩⟩);exact ⟨⟨_,by rw [HF.out];rfl,HFr.out _⟩,((((HBl.out.setCell (Nat.le_refl _) _).setCell (Nat.le_refl _) _).setCell (Nat.le_refl _) _).setCell (Nat.le_refl _) _).setCell (Nat.le_refl _) _⟩
       | true =>
         have HPe:Hid (kCG ⟨ps,t,ls⟩=kBR ⟨ps,t,ls⟩):=hJ (by unfold kCG;rw [if_pos hv]);rw [hv,if_pos rfl,HPe.out] at HC;rw [hv] at HR3;generalize kBR ⟨ps,t,ls⟩=o at *
         go_wp2_with fail
         refine (HC.out).mono ?_;rintro e w2 ⟨rfl,hb⟩;have HB2:=hJ hb;replace v0:=(hb.cell (by show g<_;omega)).trans v0;replace v1:=(hb.cell (by show g<_;omega)).trans v1;replace v2:=(hb.cell (by show g<_;omega)).trans v2;replace v3:=(hb.cell (by show g<_;omega)).trans v3;replace v4:=(hb.cell (by show g<_;omega)).trans v4;replace HRs:=hJ (HRs.out.below HB2.out HRs.out.lt);replace HBl:=hJ (HBl.out.trans (HB2.out.mono HBl.out.size));cases ho:(o.toList==s.toList) with
         | false =>
           have HF:Hid (res=none):=hJ (by rw [HR3.out,ho];rfl);have z0:=HRs.out.cell 0 _ rfl;have z1:=HRs.out.cell 1 _ rfl;have z2:=HRs.out.cell 2 _ rfl;have z3:=HRs.out.cell 3 _ rfl;have z4:=HRs.out.cell 4 _ rfl;have f0:=HRs.out.fz 0;have f1:=HRs.out.fz 1;have f2:=HRs.out.fz 2;have f3:=HRs.out.fz 3;have f4:=HRs.out.fz 4;have hl0:=HRs.out.lt;have HZz:=hJ (((((HRs.out.set 0 (.slice none 0 0)).set 1 (.string ⟨#[]⟩)).set 2 (.string ⟨#[]⟩)).set 3 (.slice none 0 0)).set 4 (.slice none 0 0));have s0:=HZz.out.cell 0 _ rfl;have s1:=HZz.out.cell 1 _ rfl;have s2:=HZz.out.cell 2 _ rfl;have s3:=HZz.out.cell 3 _ rfl;have s4:=HZz.out.cell 4 _ rfl
           go_upto_region 31 with fail
           (try simp only []);repeat (first | go_values | go_skip | go_guarded | go_step | go_upon)
           refine bodyPost_ret (v:=.tuple #[.agg #[.slice none 0 0,.string ⟨#[]⟩,.string ⟨#[]⟩,.slice none 0 0,.slice none 0 0],.int .i64 6]) (by simp [results,results27,go_sem,s0,s1,s2,s3,s4,hl0]) rfl ?_;have HFr:Hid (∀ W,RSch.rd (fun k=>w.heap.size≤k) W [.slice none 0 0,.string ⟨#[]⟩,.string ⟨#[]⟩,.slice none 0 0,.slice none 0 0] (optS res)):=hJ (fun W=>by rw [HF.out];exact ⟨_,_,_,rfl,⟨none,0,rfl,Sl.empty RTyp _ _⟩,⟨none,0,rfl,Sl.empty RLin _ _⟩,⟨none,0,rfl,Sl.empty RLin _ _⟩⟩);exact ⟨⟨_,by rw [HF.out];rfl,HFr.out _⟩,((((HBl.out.setCell (Nat.le_refl _) _).setCell (Nat.le_refl _) _).setCell (Nat.le_refl _) _).setCell (Nat.le_refl _) _).setCell (Nat.le_refl _) _⟩
         | true =>
           have HF:Hid (res=some ⟨ps,t,ls⟩):=hJ (by rw [HR3.out,ho];rfl);have z0:=HRs.out.cell 0 _ rfl;have z1:=HRs.out.cell 1 _ rfl;have z2:=HRs.out.cell 2 _ rfl;have z3:=HRs.out.cell 3 _ rfl;have z4:=HRs.out.cell 4 _ rfl;have f0:=HRs.out.fz 0;have f1:=HRs.out.fz 1;have f2:=HRs.out.fz 2;have f3:=HRs.out.fz 3;have f4:=HRs.out.fz 4;have hl0:=HRs.out.lt
           go_upto_region 32 with fail
           (try simp only []);repeat (first | go_values | go_skip | go_guarded | go_step | go_upon)
           have HZz:=hJ (((((HRs.out.set 0 (.slice pa ps.length pc)).set 1 (.string t.elem)).set 2 (.string t.shape.row)).set 3 (.slice ay t.shape.dims.length cy)).set 4 (.slice qa ls.length qc));have s0:=HZz.out.cell 0 _ rfl;have s1:=HZz.out.cell 1 _ rfl;have s2:=HZz.out.cell 2 _ rfl;have s3:=HZz.out.cell 3 _ rfl;have s4:=HZz.out.cell 4 _ rfl;refine bodyPost_ret (v:=.tuple #[.agg #[.slice pa ps.length pc,.string t.elem,.string t.shape.row,.slice ay t.shape.dims.length cy,.slice qa ls.length qc],.int .i64 0]) (by simp [results,results27,go_sem,s0,s1,s2,s3,s4,hl0]) rfl ?_;have hfr:∀ (W:World) (j:Nat) (u:Value) (q:Nat),g<q→(W.setCell ⟨w.heap.size,j,none⟩ u).heap[q]? =W.heap[q]? :=fun W j u q hq=>kAB (by show w.heap.size≠q;omega)
           exact ⟨⟨_,by rw [HF.out];rfl,by rw [HF.out];exact RSch.mono (RSch.frame (RSch.frame (RSch.frame (RSch.frame (RSch.frame (RSch.below HRd.out HB2.out) (fun q hq _=>hfr _ 0 _ q hq)) (fun q hq _=>hfr _ 1 _ q hq)) (fun q hq _=>hfr _ 2 _ q hq)) (fun q hq _=>hfr _ 3 _ q hq)) (fun q hq _=>hfr _ 4 _ q hq)) (fun q hq _=>by show w.heap.size≤q;omega)⟩,((((HBl.out.setCell (Nat.le_refl _) _).setCell (Nat.le_refl _) _).setCell (Nat.le_refl _) _).setCell (Nat.le_refl _) _).setCell (Nat.le_refl _) _⟩
 · have HF:Hid (res=none):=hJ (by rw [HR.out,if_neg hok])
   clear HR;cases ok1:cut3 s arrS with
   | false =>
     clear hok;have z0:=HRs.out.cell 0 _ rfl;have z1:=HRs.out.cell 1 _ rfl;have z2:=HRs.out.cell 2 _ rfl;have z3:=HRs.out.cell 3 _ rfl;have z4:=HRs.out.cell 4 _ rfl;have f0:=HRs.out.fz 0;have f1:=HRs.out.fz 1;have f2:=HRs.out.fz 2;have f3:=HRs.out.fz 3;have f4:=HRs.out.fz 4;have hl0:=HRs.out.lt;have HZz:=hJ (((((HRs.out.set 0 (.slice none 0 0)).set 1 (.string ⟨#[]⟩)).set 2 (.string ⟨#[]⟩)).set 3 (.slice none 0 0)).set 4 (.slice none 0 0));have s0:=HZz.out.cell 0 _ rfl;have s1:=HZz.out.cell 1 _ rfl;have s2:=HZz.out.cell 2 _ rfl;have s3:=HZz.out.cell 3 _ rfl;have s4:=HZz.out.cell 4 _ rfl
     go_upto_region 4 with fail
     (try simp only []);repeat (first | go_values | go_skip | go_guarded | go_step | go_upon)
     refine bodyPost_ret (v:=.tuple #[.agg #[.slice none 0 0,.string ⟨#[]⟩,.string ⟨#[]⟩,.slice none 0 0,.slice none 0 0],.int .i64 6]) (by simp [results,results27,go_sem,s0,s1,s2,s3,s4,hl0]) rfl ?_;have HFr:Hid (∀ W,RSch.rd (fun k=>w.heap.size≤k) W [.slice none 0 0,.string ⟨#[]⟩,.string ⟨#[]⟩,.slice none 0 0,.slice none 0 0] (optS res)):=hJ (fun W=>by rw [HF.out];exact ⟨_,_,_,rfl,⟨none,0,rfl,Sl.empty RTyp _ _⟩,⟨none,0,rfl,Sl.empty RLin _ _⟩,⟨none,0,rfl,Sl.empty RLin _ _⟩⟩);exact ⟨⟨_,by rw [HF.out];rfl,HFr.out _⟩,((((HBl.out.setCell (Nat.le_refl _) _).setCell (Nat.le_refl _) _).setCell (Nat.le_refl _) _).setCell (Nat.le_refl _) _).setCell (Nat.le_refl _) _⟩
   | true =>
     cases ok2:hasP (cut1 s arrS) parS with
     | false =>
       clear hok;have z0:=HRs.out.cell 0 _ rfl;have z1:=HRs.out.cell 1 _ rfl;have z2:=HRs.out.cell 2 _ rfl;have z3:=HRs.out.cell 3 _ rfl;have z4:=HRs.out.cell 4 _ rfl;have f0:=HRs.out.fz 0;have f1:=HRs.out.fz 1;have f2:=HRs.out.fz 2;have f3:=HRs.out.fz 3;have f4:=HRs.out.fz 4;have hl0:=HRs.out.lt;have HZz:=hJ (((((HRs.out.set 0 (.slice none 0 0)).set 1 (.string ⟨#[]⟩)).set 2 (.string ⟨#[]⟩)).set 3 (.slice none 0 0)).set 4 (.slice none 0 0));have s0:=HZz.out.cell 0 _ rfl;have s1:=HZz.out.cell 1 _ rfl;have s2:=HZz.out.cell 2 _ rfl;have s3:=HZz.out.cell 3 _ rfl;have s4:=HZz.out.cell 4 _ rfl
       go_upto_region 4 with fail
       (try simp only []);repeat (first | go_values | go_skip | go_guarded | go_step | go_upon)
       refine bodyPost_ret (v:=.tuple #[.agg #[.slice none 0 0,.string ⟨#[]⟩,.string ⟨#[]⟩,.slice none 0 0,.slice none 0 0],.int .i64 6]) (by simp [results,results27,go_sem,s0,s1,s2,s3,s4,hl0]) rfl ?_;have HFr:Hid (∀ W,RSch.rd (fun k=>w.heap.size≤k) W [.slice none 0 0,.string ⟨#[]⟩,.string ⟨#[]⟩,.slice none 0 0,.slice none 0 0] (optS res)):=hJ (fun W=>by rw [HF.out];exact ⟨_,_,_,rfl,⟨none,0,rfl,Sl.empty RTyp _ _⟩,⟨none,0,rfl,Sl.empty RLin _ _⟩,⟨none,0,rfl,Sl.empty RLin _ _⟩⟩);exact ⟨⟨_,by rw [HF.out];rfl,HFr.out _⟩,((((HBl.out.setCell (Nat.le_refl _) _).setCell (Nat.le_refl _) _).setCell (Nat.le_refl _) _).setCell (Nat.le_refl _) _).setCell (Nat.le_refl _) _⟩
     | true=>exact absurd (by rw [ok1,ok2];rfl) hok
def nlS:Str:=⟨#[10]⟩
def colS:Str:=⟨#[58,32]⟩
def capS:Str:=⟨#[105,110,116,101,114,102,97,99,101,32]⟩
def okIfc (s:Str) (x:Ifc):Option Ifc:=if kAL x && (kC0 x).toList==s.toList then some x else none
def kJ2:List Str→List Ent→Option (List Ent)
 | [],acc=>some acc
 | x :: l,acc=>match kDY (cut2 x colS) with
   | none=>none
   | some y=>kJ2 l (acc++[⟨cut1 x colS,y⟩])
def midL (l:List Str):List Str:=(l.drop 1).take (l.length - 2)
def kD8 (s:Str):Option Ifc :=
 if hasP ((kA5 s nlS).getD 0 default) capS && decide ((kA5 s nlS).length≤62) then
  match kJ2 (midL (kA5 s nlS)) [] with
  | none=>none
  | some es=>okIfc s ⟨cutP ((kA5 s nlS).getD 0 default) capS,es⟩
 else none
def befN (s p:Str):Nat:=kBW (fun i=> !((s.extract i (i+p.size)).toList==p.toList)) (s.size+1 - p.size) 0
def befB (s p:Str):Bool:=decide (befN s p+p.size≤s.size)
def befL (s p:Str):Str:=if befB s p then s.extract 0 (befN s p) else ⟨#[]⟩
def befR (s p:Str):Str:=if befB s p then s.extract (befN s p+p.size) s.size else ⟨#[]⟩
def goIR:Nat→Str→List Ent→Option (List Ent)
 | 0,_,_=>none
 | g+1,r,acc=>if r.size=0 then some acc else match kDY (befR (befL r nlS) colS) with
   | none=>none
   | some y=>if befB r nlS && befB (befL r nlS) colS then goIR g (befR r nlS) (acc++[⟨befL (befL r nlS) colS,y⟩]) else none
def readIR (s:Str):Option Ifc :=
 if befB s nlS && (befB (befL s nlS) capS && (befL (befL s nlS) capS).toList.isEmpty) then
  match goIR (s.size+1) (befR s nlS) [] with
  | none=>none
  | some es=>okIfc s ⟨befR (befL s nlS) capS,es⟩
 else none
theorem okIfc_sound {s:Str} {x y:Ifc} (h:okIfc s x=some y):kAL y=true∧kC0 y=s:=by
 unfold okIfc at h
 split at h
 · rename_i hc
   obtain rfl:=Option.some.inj h;rw [Bool.and_eq_true] at hc;exact ⟨hc.1,(kA3 _ _).1 hc.2⟩
 · cases h
theorem okIfc_self {x:Ifc} (h:kAL x=true):okIfc (kC0 x) x=some x:=by
 unfold okIfc;rw [h];simp
theorem readI_sound {s:Str} {x:Ifc} (h:kD8 s=some x):kAL x=true∧kC0 x=s:=by
 unfold kD8 at h
 split at h
 · split at h
   · cases h
   · exact okIfc_sound h
 · cases h
theorem readIR_sound {s:Str} {x:Ifc} (h:readIR s=some x):kAL x=true∧kC0 x=s:=by
 unfold readIR at h
 split at h
 · split at h
   · cases h
   · exact okIfc_sound h
 · cases h
structure IfcOk (x:Ifc):Prop where
 mod:kAZ x.module_=true
 len:x.entries.length≤60
 ents:∀ e ∈ x.entries,kAZ e.name=true∧kAH e.scheme=true
theorem ifc_ok {x:Ifc} (h:kAL x=true):IfcOk x:=by
 unfold kAL at h;rw [Bool.and_eq_true,Bool.and_eq_true,List.all_eq_true] at h;refine ⟨h.2.1,of_decide_eq_true h.2.2,fun e he=>?_⟩;obtain ⟨i,hi,rfl⟩:=List.getElem_of_mem he;have:=h.1 i (List.mem_range.2 hi);unfold entAt at this;rw [Bool.and_eq_true,Bool.and_eq_true,List.getD_eq_getElem?_getD,List.getElem?_eq_getElem hi] at this;exact ⟨this.1,this.2.1⟩
theorem kFL {s:Str} (h:kAZ s=true):AllB kIP s:=AllB.of fun i hi=>by
 unfold kAZ at h;rw [Bool.and_eq_true,Bool.and_eq_true,Bool.and_eq_true] at h;have:=List.all_eq_true.1 h.2.2.1 i (List.mem_range.2 hi);unfold runB kAN kAR at this;unfold kIP;simp at this ⊢;omega
def noNl (c:Int):Bool:= !(c==10)
theorem kGB {c:Int} (h:kIP c=true):noNl c=true:=by
 unfold kIP at h;unfold noNl;simp at h ⊢;omega
theorem kJ1 {l:List UInt8} (h:∀ c ∈ l,c≠10):AllB noNl ⟨l.toArray⟩:=fun c hc=>by
 have:=h c (by simpa using hc);unfold noNl;rw [Bool.not_eq_true',beq_eq_false_iff_ne];intro e;apply this;exact UInt8.toNat_inj.1 (by have:(c.toNat:Int)=10:=e;show c.toNat=10;omega)
theorem textS_noNl {x:Sch} (hv:kAH x=true):AllB noNl (kBR x):=by
 have h:=sch_ok hv;rw [kH1];refine ((head_plain h).mono fun c=>kGB).app ((kJ1 (by decide)).app (((textT_plain h.res).mono fun c=>kGB).app ?_));unfold kFT
 split
 · refine (kJ1 (by decide)).app (AllB.join (kJ1 (by decide)) _ fun y hy=>?_)
   exact (wh_linC h y hy).1.mono fun c hc=>kGB (noSep_plain hc)
 · exact AllB.nil
theorem kH8 {x:Ent} (h:kAH x.scheme=true):kBN x=x.name++(colS++kBR x.scheme):=by
 unfold kBN kCG;rw [if_pos h,ByteArray.append_assoc];rfl
theorem lineE_noNl {x:Ent} (h:kAZ x.name=true∧kAH x.scheme=true):AllB noNl (kBN x):=by
 rw [kH8 h.2];exact ((kFL h.1).mono fun c=>kGB).app ((kJ1 (by decide)).app (textS_noNl h.2))
theorem capI_form (m:Str):capI m=capS++m:=rfl
theorem capI_noNl {m:Str} (h:kAZ m=true):AllB noNl (capI m):=(kJ1 (by decide)).app ((kFL h).mono fun c=>kGB)
theorem split_text {x:Ifc} (hv:kAL x=true):kA5 (kC0 x) nlS=capI x.module_ :: (x.entries.map kBN++[⟨#[]⟩]):=by
 have h:=ifc_ok hv;unfold kC0;rw [List.cons_append];refine kFZ (c:=10) (t:=[]) rfl _ _ fun y hy j hj=>?_
 have hn:AllB noNl y:=by
  rcases List.mem_cons.1 hy with rfl | hy
  · exact capI_noNl h.mod
  · rcases List.mem_append.1 hy with q | q
    · obtain ⟨e,he,rfl⟩:=List.mem_map.1 q
      exact lineE_noNl (h.ents e he)
    · rw [List.mem_singleton.1 q];exact AllB.nil
 exact hn.ne (by decide) hj
theorem cut_line {x:Ent} (h:kAZ x.name=true∧kAH x.scheme=true):cut1 (kBN x) colS=x.name∧cut2 (kBN x) colS=kBR x.scheme:=by
 rw [kH8 h.2];obtain ⟨h1,h2,_⟩:=cut_hit (a:=x.name) (sep:=colS) (r:=kBR x.scheme) (head_no (c:=58) (t:=[32]) rfl fun j hj=>(kFL h.1).ne (by decide) hj);exact ⟨h1,h2⟩
theorem listE_back:∀ (l acc:List Ent),(∀ e ∈ l,kAZ e.name=true∧kAH e.scheme=true)→kJ2 (l.map kBN) acc=some (acc++l)
 | [],acc,_=>by rw [List.append_nil];rfl
 | x :: l,acc,h=>by
   have hx:=h x (List.mem_cons_self ..);obtain ⟨c1,c2⟩:=cut_line hx
   show (match kDY (cut2 (kBN x) colS) with | none=>none | some y=>kJ2 (l.map kBN) (acc++[(⟨cut1 (kBN x) colS,y⟩:Ent)]))=_
   rw [c1,c2,readS_back hx.2]
   show kJ2 (l.map kBN) (acc++[⟨x.name,x.scheme⟩])=_
   rw [listE_back l _ (fun q hq=>h q (List.mem_cons_of_mem _ hq)),List.append_assoc];rfl
theorem mid_text (a:Str) (l:List Str) (b:Str):midL (a :: (l++[b]))=l:=by
 unfold midL;rw [List.drop_one,List.tail_cons,List.length_cons,List.length_append,List.length_singleton];rw [show l.length+1+1 - 2=l.length by omega,List.take_left]
theorem readI_back {x:Ifc} (hv:kAL x=true):kD8 (kC0 x)=some x:=by
 have h:=ifc_ok hv;unfold kD8;rw [split_text hv,mid_text]
 show (if hasP (capI x.module_) capS && decide ((capI x.module_ :: (x.entries.map kBN++[⟨#[]⟩])).length≤62) then _ else _)=_
 rw [capI_form,hasP_app,decide_eq_true (by rw [List.length_cons,List.length_append,List.length_map,List.length_singleton];have:=h.len;omega),listE_back _ _ h.ents,List.nil_append]
 show okIfc (kC0 x) ⟨cutP (capS++x.module_) capS,x.entries⟩=_
 rw [kKF];exact okIfc_self hv
theorem bef_at {a p r:Str} (h0:0<p.size) (h:∀ j,j<a.size→bt a j≠bt p 0):befB (a++(p++r)) p=true∧befL (a++(p++r)) p=a∧befR (a++(p++r)) p=r:=by
 have hsz:(a++(p++r)).size=a.size+(p.size+r.size):=by rw [ByteArray.size_append,ByteArray.size_append]
 have hn:befN (a++(p++r)) p=a.size:=by
  unfold befN;refine kGS a.size 0 a.size (by omega) (by omega) (fun j _ hj=>?_) (fun _=>?_)
  · cases hc:((a++(p++r)).extract j (j+p.size)).toList==p.toList with
    | false=>rfl
    | true =>
      have e:=(kA3 _ _).1 hc;have e2:=kIL (a++(p++r)) (a:=j) (b:=j+p.size) (i:=0) (by omega) (by omega);rw [e,Nat.add_zero,kBI hj] at e2;exact absurd e2.symm (h j hj)
  · rw [kDW]
    simp
 have hb:befB (a++(p++r)) p=true:=by
  unfold befB;rw [hn];exact decide_eq_true (by omega)
 refine ⟨hb,?_,?_⟩
 · unfold befL;rw [if_pos hb,hn,kEU]
 · unfold befR
   rw [if_pos hb,hn,← ByteArray.append_assoc,← ByteArray.size_append,kFB]
def kGN:List Ent→Str
 | []=>⟨#[]⟩
 | e :: l=>kBN e++(nlS++kGN l)
theorem tailI_join:∀ l:List Ent,kAO (l.map kBN++[⟨#[]⟩]) nlS=kGN l
 | []=>kBT _ _
 | [e]=>by
   show kAO [kBN e,⟨#[]⟩] nlS=kBN e++(nlS++⟨#[]⟩)
   rw [kBX,kBT]
 | e :: f :: l=>by
   have:=tailI_join (f :: l)
   show kAO (kBN e :: kBN f :: (l.map kBN++[⟨#[]⟩])) nlS=kBN e++(nlS++kGN (f :: l))
   rw [kBX,← this];rfl
theorem textI_form (x:Ifc):kC0 x=capI x.module_++(nlS++kGN x.entries):=by
 unfold kC0;rw [← tailI_join];cases x.entries with
 | nil =>
   show kAO [capI x.module_,⟨#[]⟩] nlS=capI x.module_++(nlS++kAO [⟨#[]⟩] nlS)
   rw [kBX]
 | cons e l =>
   show kAO (capI x.module_ :: kBN e :: (l.map kBN++[⟨#[]⟩])) nlS=_
   rw [kBX];rfl
theorem goIR_back:∀ (l:List Ent) (g:Nat) (acc:List Ent),(∀ e ∈ l,kAZ e.name=true∧kAH e.scheme=true)→l.length<g→goIR g (kGN l) acc=some (acc++l)
 | [],g,acc,_,hg=>by
   obtain ⟨g,rfl⟩:∃ m,g=m+1:=⟨g - 1,by have:0<g:=hg;omega⟩
   rw [List.append_nil];rfl
 | e :: l,g,acc,h,hg=>by
   rw [List.length_cons] at hg;obtain ⟨g,rfl⟩:∃ m,g=m+1:=⟨g - 1,by omega⟩
   have hx:=h e (List.mem_cons_self ..);obtain ⟨a1,a2,a3⟩:=bef_at (a:=kBN e) (p:=nlS) (r:=kGN l) (by decide) (fun j hj=>(lineE_noNl hx).ne (by decide) hj);obtain ⟨b1,b2,b3⟩:=bef_at (a:=e.name) (p:=colS) (r:=kBR e.scheme) (by decide) (fun j hj=>(kFL hx.1).ne (by decide) hj);rw [← kH8 hx.2] at b1 b2 b3
   show (if (kBN e++(nlS++kGN l)).size=0 then some acc else _)=_
   rw [if_neg (by rw [ByteArray.size_append,ByteArray.size_append,show nlS.size=1 from rfl];omega)]
   show (match kDY (befR (befL (kBN e++(nlS++kGN l)) nlS) colS) with | none=>none | some y=>if befB (kBN e++(nlS++kGN l)) nlS && befB (befL (kBN e++(nlS++kGN l)) nlS) colS then goIR g (befR (kBN e++(nlS++kGN l)) nlS) (acc++[(⟨befL (befL (kBN e++(nlS++kGN l)) nlS) colS,y⟩:Ent)]) else none)=_
   rw [a1,a2,a3,b1,b2,b3,readS_back hx.2]
   show goIR g (kGN l) (acc++[⟨e.name,e.scheme⟩])=_
   rw [goIR_back l g _ (fun q hq=>h q (List.mem_cons_of_mem _ hq)) (by omega),List.append_assoc];rfl
theorem tailI_len:∀ l:List Ent,l.length≤(kGN l).size
 | []=>Nat.zero_le _
 | e :: l=>by
   have:=tailI_len l
   show l.length+1≤(kBN e++(nlS++kGN l)).size
   rw [ByteArray.size_append,ByteArray.size_append,show nlS.size=1 from rfl];omega
theorem readIR_back {x:Ifc} (hv:kAL x=true):readIR (kC0 x)=some x:=by
 have h:=ifc_ok hv;obtain ⟨a1,a2,a3⟩:=bef_at (a:=capI x.module_) (p:=nlS) (r:=kGN x.entries) (by decide) (fun j hj=>(capI_noNl h.mod).ne (by decide) hj);obtain ⟨b1,b2,b3⟩:=bef_at (a:=⟨#[]⟩) (p:=capS) (r:=x.module_) (by decide) (fun j hj=>by cases hj);rw [kDL,← capI_form] at b1 b2 b3;have hl:=tailI_len x.entries;have hsz:(kC0 x).size=(capI x.module_).size+(1+(kGN x.entries).size):=by rw [textI_form,ByteArray.size_append,ByteArray.size_append];rfl
 rw [← textI_form] at a1 a2 a3;unfold readIR;rw [a1,a2,a3,b1,b2,b3,kE8,goIR_back _ _ _ h.ents (by omega),List.nil_append];exact okIfc_self hv
theorem readIR_eq (s:Str):readIR s=kD8 s:=by
 cases h:kD8 s with
 | some x =>
   obtain ⟨h1,rfl⟩:=readI_sound h;exact readIR_back h1
 | none =>
   cases h2:readIR s with
   | none=>rfl
   | some x =>
     obtain ⟨h1,rfl⟩:=readIR_sound h2;rw [readI_back h1] at h;cases h
def kCV:Ifc:=⟨⟨#[]⟩,[]⟩
def optI (o:Option Ifc):Ifc:=match o with
 | none=>kCV
 | some x=>x
def IOk (s:Str):Prop:=s.size≤1000000∧(cutP ((kA5 s nlS).getD 0 default) capS).size≤100000∧∀ x ∈ midL (kA5 s nlS),x.size≤1000000∧(cut1 x colS).size≤100000∧SOk (cut2 x colS)
theorem kHC {s:Str} {t:Sch} (h:kDY s=some t) (hs:SOk s) (w:World) (E:EnvM w) :
 Calls Tryz.prog 27 #[.string s] w fun e w'=>(∃ ds,e= .returned (.tuple #[.agg ds.toArray,.int .i64 0])∧RSch.rd (fun k=>w.heap.size≤k) w' ds t)∧Below w.heap.size w w':=by
 have:=kFW s hs w E;rw [h] at this;exact this
theorem kHD {s:Str} (h:kDY s=none) (hs:SOk s) (w:World) (E:EnvM w) :
 Calls Tryz.prog 27 #[.string s] w fun e w'=>(∃ ds,e= .returned (.tuple #[.agg ds.toArray,.int .i64 6])∧RSch.rd (fun k=>w.heap.size≤k) w' ds kA8)∧Below w.heap.size w w':=by
 have:=kFW s hs w E;rw [h] at this;exact this
theorem schT_sz {x:Sch} (h:kAH x=true):szS x:=by
 have k:=sch_ok h;exact ⟨fun t ht=>typT_sz (k.ps t ht),typT_sz k.res,fun d hd=>kFU (k.wh d hd)⟩
theorem listE_cons (x:Str) (l:List Str) (acc:List Ent):kJ2 (x :: l) acc=match kDY (cut2 x colS) with | none=>none | some y=>kJ2 l (acc++[⟨cut1 x colS,y⟩]):=rfl
theorem run_both {P:Program} {T E:TypeId} {size bytes:Nat} (he:ElemOf P T E size bytes) (W:World) (a:Option Addr) (m co k hi:Nat) (hk:k≤hi) (hh:hi≤co):(Instr.slice T (.slice a m co) (some (.int .i64 k)) (some (.int .i64 hi)) none).run P W= .ok (.slice (if co=k then a else a.map (·.add (k * size))) (hi - k) (co - k)) W:=by
 have h1:(Instr.sliceBounds true m co (some (.int .i64 k)) (some (.int .i64 hi)) none).run P W= .ok (k,hi,co) W:=by
  simp [Instr.sliceBounds,Instr.sliceBound,asIntOf,hk,hh]
 obtain ⟨i0,z0,hi',hz,hs,hb,hzs⟩:=he.parts;subst hs;simp only [Instr.slice,run_underlying he.slice,Sem.run_bind,Result.andThen_ok,h1,sizeOf,typeInfo];simp [hi']
theorem mid_slice (L:List Str) (h1:0<L.length) (h2:L.length≤maxLen) (gl:Nat):∃ (a:Option Addr) (c:Nat),(∀ W:World,(Instr.slice 69 (.slice (some ⟨gl,0,none⟩) L.length L.length) (some (.int .i64 1)) (some (.int .i64 ((midL L).length+1:Nat))) none).run Tryz.prog W= .ok (.slice a (midL L).length c) W) ∧
 (∀ k,k<(midL L).length→a=some ⟨gl,1,none⟩∧(midL L).getD k default=L.getD (1+k) default∧1+k<L.length)∧(midL L).length≤c:=by
 have hl:(midL L).length=L.length - 2:=by unfold midL;rw [List.length_take,List.length_drop];omega
 refine ⟨_,_,fun W=>by
  have:=run_both kEP W (some ⟨gl,0,none⟩) L.length L.length 1 ((midL L).length+1) (by omega) (by omega);rw [Nat.add_sub_cancel] at this;exact this,fun k hk=>⟨?_,?_,by omega⟩,by omega⟩
 · rw [if_neg (by omega),Option.map_some,add_mk];rfl
 · unfold midL
   rw [List.getD_eq_getElem?_getD,List.getD_eq_getElem?_getD,List.getElem?_take,if_pos (by omega),List.getElem?_drop]
theorem splitS_pos (s p:Str):0<(kA5 s p).length:=by
 unfold kA5;cases Lib.countB s p with
 | zero=>exact Nat.one_pos
 | succ k =>
   unfold Lib.splitB
   split <;> exact Nat.succ_pos _
theorem kE6 (s:Str) (hs:IOk s) (w:World) (E:EnvM w) :
 Calls Tryz.prog 11 #[.string s] w fun e w'=>(∃ a c,e= .returned (.tuple #[.agg #[.string (optI (kD8 s)).module_,.slice a (optI (kD8 s)).entries.length c],.int .i64 (optE (kD8 s))])∧Sl REnt (fun k=>w.heap.size≤k) w' a (optI (kD8 s)).entries.length c (optI (kD8 s)).entries)∧Below w.heap.size w w':=by
 have HE:=hJ E;have h8:8≤w.heap.size:=E.env.big;obtain ⟨hsz,hmz,hls⟩:=hs;have HR:Hid (kD8 s=if hasP ((kA5 s nlS).getD 0 default) capS && decide ((kA5 s nlS).length≤62) then (match kJ2 (midL (kA5 s nlS)) [] with | none=>none | some es=>okIfc s ⟨cutP ((kA5 s nlS).getD 0 default) capS,es⟩) else none):=hJ rfl;have hpos:=splitS_pos s nlS;have hlen:=splitS_len s nlS;have HC1:=hJ (fun W E=>kJN s nlS hsz (by decide) W E);have HC2:=fun W=>Tryz.strings_CutPrefix ((kA5 s nlS).getD 0 default) ⟨#[105,110,116,101,114,102,97,99,101,32]⟩ W
 change ∀ W,Calls _ _ _ W fun e w'=>e= .returned (.tuple #[.string (cutP ((kA5 s nlS).getD 0 default) capS),.bool (hasP ((kA5 s nlS).getD 0 default) capS)])∧_ at HC2
 replace HC2:=hJ HC2;have HLs:=hJ hls;clear E hls;generalize kD8 s=res at *;generalize kA5 s nlS=L at *;have hy0:(L.map Value.string)[0]? =some (.string (L.getD 0 default)):=by rw [List.getElem?_map,getD_at hpos];rfl
 generalize L.getD 0 default=x0 at *;have HRb:=hJ (Bx.fresh w 29 [.string ⟨#[]⟩,.slice none 0 0]);have HB0:=hJ ((Below.refl _ w).alloc (Nat.le_refl _) (.cells #[.string ⟨#[]⟩,.slice none 0 0] 29));go_enter func11,ntmps11
 go_wp2_with fail
 have HE0:=hJ (HE.out.keep HB0.out h8);generalize w.alloc (.cells #[.string ⟨#[]⟩,.slice none 0 0] 29)=W0 at *;refine (HC1.out _ HE0.out).mono ?_;rintro e W0' ⟨rfl,rfl⟩;have HRs:=hJ (HRb.out.alloc (.cells (L.map Value.string).toArray 9));have HLb:=hJ (Bx.fresh W0 9 (L.map Value.string));have HBl:=hJ (HB0.out.alloc HB0.out.size (.cells (L.map Value.string).toArray 9));have hzW:w.heap.size<W0.heap.size:=HRb.out.lt;have y0:=HLb.out.cell 0 (.string x0) hy0;clear hy0;obtain ⟨gl,hgl⟩:∃ gl,gl=W0.heap.size:=⟨_,rfl⟩
 rw [← hgl] at HLb y0 hzW ⊢;clear HC1 HRb HB0 HE0 hgl;generalize W0.alloc (.cells (L.map Value.string).toArray 9)=W1 at *
 go_wp2_with fail
 refine (HC2.out _).mono ?_;rintro e W9 ⟨rfl,rfl⟩;clear HC2 y0;have hzl:L.length≤maxLen:=by unfold maxLen;omega
 obtain ⟨a2,c2,hsl,hel,hc2⟩:=mid_slice L hpos hzl gl;have hM:(midL L).length=L.length - 2:=by unfold midL;rw [List.length_take,List.length_drop];omega
 have HG:Hid (∀ k,k<(midL L).length→a2=some ⟨gl,1,none⟩∧W9.cell? ⟨gl,1+k,none⟩=some (.string ((midL L).getD k default))):=hJ (fun k hk=>by
  obtain ⟨e1,e2,e3⟩:=hel k hk;refine ⟨e1,?_⟩;rw [e2];exact HLb.out.cell (1+k) _ (by rw [List.getElem?_map,getD_at e3];rfl))
 have hgl:=HLb.out.lt;clear hel;by_cases hok:(hasP x0 capS && decide (L.length≤62))=true
 · replace HR:Hid (res=match kJ2 (midL L) [] with | none=>none | some es=>okIfc s ⟨cutP x0 capS,es⟩):=hJ (by rw [HR.out,if_pos hok])
   rw [Bool.and_eq_true] at hok;obtain ⟨ok1,ok2⟩:=hok;have ok2:=of_decide_eq_true ok2;rw [ok1];have q0:decide ((L.length:Int) > 62)=false:=decide_eq_false (by omega);have q0':decide (62<L.length)=false:=decide_eq_false (by omega);have hhi:(L.length:Int) - min (1:Int) ((L.length:Int) - 1)=(((midL L).length+1:Nat):Int):=by omega
   generalize cutP x0 capS=nm at *;generalize midL L=M at *;have HBX:=hJ (Bx.fresh W9 29 [.string nm,.slice none 0 0]);replace HRs:=hJ (HRs.out.alloc (.cells #[.string nm,.slice none 0 0] 29));replace HLb:=hJ (HLb.out.alloc (.cells #[.string nm,.slice none 0 0] 29));replace HBl:=hJ (HBl.out.alloc HBl.out.size (.cells #[.string nm,.slice none 0 0] 29));replace HG:Hid (∀ k,k<M.length→a2=some ⟨gl,1,none⟩∧(W9.alloc (.cells #[.string nm,.slice none 0 0] 29)).cell? ⟨gl,1+k,none⟩=some (.string (M.getD k default))):=hJ (fun k hk=>⟨(HG.out k hk).1,kAG (HG.out k hk).2 _ ((Below.refl _ _).alloc (Nat.le_refl _) _)⟩);have hgW:=HBX.out.lt
   go_upto_region 6 with fail
   generalize hg:W9.heap.size=g at *;generalize W9.alloc (.cells #[.string nm,.slice none 0 0] 29)=W at *;clear hg W9
   go_cut [42,43,44] (fun v42 v43 v44 W2=>∃ (a3:Option Addr) (c3:Nat),v42= .slice a3 M.length c3∧v43= .int .i64 M.length∧v44= .int .i64 0∧Hid (∀ k,k<M.length→a3=some ⟨gl,1,none⟩∧W.cell? ⟨gl,1+k,none⟩=some (.string (M.getD k default)))∧W=W2)
   case first =>
    by_cases hL1:L.length=1
    · have hM0:M.length=0:=by omega
      go_wp2_with fail
      go_meet
      exact ⟨_,_,by rw [hM0];exact rfl,by rw [hM0];exact rfl,rfl,hJ (fun k hk=>by omega),rfl⟩
    · go_wp2_with fail
      go_meet
      exact ⟨_,_,by rw [hM],by rw [hM],rfl,hJ (fun k hk=>⟨rfl,(HG.out k hk).2⟩),rfl⟩
   case rest =>
    obtain ⟨a3,c3,rfl,rfl,rfl,HG3,rfl⟩:=hcut;clear HG hsl hc2 a2 c2 hhi q0 q0';obtain ⟨tot,hto⟩:∃ tot,tot=kJ2 M []:=⟨_,rfl⟩
    rw [← hto] at HR;have HTo:=hJ hto.symm;clear hto;have hMl:M.length≤60:=by omega
    clear hM;have HTo0:=HTo;have HR2:Hid (tot=none→res=none):=hJ (fun h=>by rw [HR.out,h])
    go_wp2_with fail
    go_loopg [44] (M.length+1) (fun gk i wr=>∃ (k:Nat) (es:List Ent) (qa:Option Addr) (qm qc:Nat),k+gk=M.length+1∧k≤M.length∧i= .int .i64 k∧es.length≤k∧W.heap.size≤wr.heap.size∧Hid (kJ2 (M.drop k) es=tot)∧Hid (∀ e ∈ es,kAH e.scheme=true∧e.name.size≤100000)∧Hid (wr.heap[gl]? =W.heap[gl]?)∧Hid (Bx wr g 29 [.string nm,.slice qa qm qc])∧Hid (Own REnt 60 (fun q=>W.heap.size≤q) wr W.heap.size (.slice qa qm qc) es)∧Hid (Bx wr w.heap.size 29 [.string ⟨#[]⟩,.slice none 0 0])∧Hid (Below w.heap.size w wr))
    case atStart=>exact ⟨0,[],none,0,0,by omega,Nat.zero_le _,rfl,Nat.le_refl _,Nat.le_refl _,HTo,hJ (fun t ht=>by cases ht),hJ rfl,HBX,hJ (Own.nil _ _ _ _ _),HRs,HBl⟩
    case round =>
     have hglW:=HLb.out.lt;clear HBX HRs HBl HTo HLb;obtain ⟨k,es,qa,qm,qc,hkg,hk,rfl,hel,hwz,HRun,HV,HGb,HBX,HOwn,HRs,HBl⟩:=hrel;by_cases hlt:k<M.length
     · obtain ⟨rfl,hy⟩:=HG3.out k hlt
       have y0:wr.cell? ⟨gl,1+k,none⟩=some (.string (M.getD k default)):=by rw [World.cell?_of_block (w:=W) HGb.out];exact hy
       have hxm:=HLs.out _ (kAJ hlt);have HDr:Hid (M.drop k=M.getD k default :: M.drop (k+1)):=hJ (drop_at hlt);replace HRun:Hid ((match kDY (cut2 (M.getD k default) colS) with | none=>none | some y=>kJ2 (M.drop (k+1)) (es++[⟨cut1 (M.getD k default) colS,y⟩]))=tot):=hJ (by rw [← HRun.out,HDr.out,listE_cons]);have HEr:=hJ (HE.out.keep HBl.out h8);clear HDr hy;generalize M.getD k default=x at *;obtain ⟨hx1,hx2,hx3⟩:=hxm;have HX3:=hJ hx3;have HCc:=hJ (kI1 x colS hx1 wr HEr.out);clear hx3
       go_wp2_with fail
       refine HCc.out.mono ?_;rintro e wr2 ⟨rfl,hbc⟩;replace HBX:=hJ (HBX.out.below hbc HBX.out.lt);replace HOwn:=hJ (HOwn.out.below hbc);replace HRs:=hJ (HRs.out.below hbc HRs.out.lt);replace HBl:=hJ (HBl.out.trans (hbc.mono HBl.out.size));replace HGb:=hJ ((hbc.block gl (by omega)).trans HGb.out);replace HEr:=hJ (HE.out.keep HBl.out h8);have hzc:=hbc.size;clear HCc hbc y0;generalize cut1 x colS=xn at *;generalize cut2 x colS=xs at *;generalize cut3 x colS=xb at *;cases hrx:kDY xs with
       | none =>
         have HC:=hJ (kHD hrx HX3.out wr2 HEr.out);have HF:Hid (res=none):=hJ (HR2.out (by rw [← HRun.out,hrx]));clear HRun hrx
         go_wp2_with fail
         refine HC.out.mono ?_;rintro e w4 ⟨⟨ds,rfl,p,t,q,rfl,⟨ap,cp,rfl,hp⟩,⟨at_,ct,rfl,ht⟩,⟨aq,cq,rfl,hq⟩⟩,hb4⟩;have hz4:=hb4.size;have HT:=hJ (Bx.fresh w4 57 [.slice ap (kA8).params.length cp,.string (kA8).result.elem,.string (kA8).result.shape.row,.slice at_ (kA8).result.shape.dims.length ct,.slice aq (kA8).wh.length cq]);have t0:=HT.out.cell 0 _ rfl;have t1:=HT.out.cell 1 _ rfl;have t2:=HT.out.cell 2 _ rfl;have t3:=HT.out.cell 3 _ rfl;have t4:=HT.out.cell 4 _ rfl;have hal:=(Below.refl w4.heap.size w4).alloc (Nat.le_refl _) (.cells #[.slice ap (kA8).params.length cp,.string (kA8).result.elem,.string (kA8).result.shape.row,.slice at_ (kA8).result.shape.dims.length ct,.slice aq (kA8).wh.length cq] 57);have HYr:Hid (RSch.rd (fun k=>wr2.heap.size≤k) (w4.alloc (.cells #[.slice ap (kA8).params.length cp,.string (kA8).result.elem,.string (kA8).result.shape.row,.slice at_ (kA8).result.shape.dims.length ct,.slice aq (kA8).wh.length cq] 57)) [.slice ap (kA8).params.length cp,.string (kA8).result.elem,.string (kA8).result.shape.row,.slice at_ (kA8).result.shape.dims.length ct,.slice aq (kA8).wh.length cq] (kA8)):=hJ ⟨_,_,_,rfl,⟨ap,cp,rfl,hp.below hal⟩,⟨at_,ct,rfl,ht.below hal⟩,⟨aq,cq,rfl,hq.below hal⟩⟩;have HB5:=hJ (hb4.alloc hz4 (.cells #[.slice ap (kA8).params.length cp,.string (kA8).result.elem,.string (kA8).result.shape.row,.slice at_ (kA8).result.shape.dims.length ct,.slice aq (kA8).wh.length cq] 57));have HOld:=HOwn;replace HBX:=hJ (HBX.out.below HB5.out HBX.out.lt);replace HOwn:=hJ (HOwn.out.below HB5.out);replace HRs:=hJ (HRs.out.below HB5.out HRs.out.lt);replace HBl:=hJ (HBl.out.trans (HB5.out.mono HBl.out.size));replace HGb:=hJ ((HB5.out.block gl (by omega)).trans HGb.out);clear hb4 hp ht hq hal HC;have z0:=HRs.out.cell 0 _ rfl;have z1:=HRs.out.cell 1 _ rfl;have f0:=HRs.out.fz 0;have f1:=HRs.out.fz 1;have hl0:=HRs.out.lt;have HZz:=hJ ((HRs.out.set 0 (.string ⟨#[]⟩)).set 1 (.slice none 0 0));have s0:=HZz.out.cell 0 _ rfl;have s1:=HZz.out.cell 1 _ rfl
         go_upto_region 12 with fail
         (try simp only []);repeat (first | go_values | go_skip | go_guarded | go_step | go_upon)
         refine bodyPost_ret (v:=.tuple #[.agg #[.string ⟨#[]⟩,.slice none 0 0],.int .i64 6]) (by simp [results,results11,go_sem,s0,s1,hl0]) rfl ?_;have HFr:Hid (∀ W,Sl REnt (fun k=>w.heap.size≤k) W none 0 0 kCV.entries):=hJ (fun W=>Sl.empty REnt _ _);exact ⟨⟨none,0,by rw [HF.out];rfl,by rw [HF.out];exact HFr.out _⟩,(HBl.out.setCell (Nat.le_refl _) _).setCell (Nat.le_refl _) _⟩
       | some y =>
         have HC:=hJ (kHC hrx HX3.out wr2 HEr.out);have HNx:Hid (kJ2 (M.drop (k+1)) (es++[⟨xn,y⟩])=tot):=hJ (by rw [← HRun.out,hrx]);have hvy:=(kI6 hrx).1;clear HRun hrx
         go_wp2_with fail
         refine HC.out.mono ?_;rintro e w4 ⟨⟨ds,rfl,p,t,q,rfl,⟨ap,cp,rfl,hp⟩,⟨at_,ct,rfl,ht⟩,⟨aq,cq,rfl,hq⟩⟩,hb4⟩;have hz4:=hb4.size;have HT:=hJ (Bx.fresh w4 57 [.slice ap (y).params.length cp,.string (y).result.elem,.string (y).result.shape.row,.slice at_ (y).result.shape.dims.length ct,.slice aq (y).wh.length cq]);have t0:=HT.out.cell 0 _ rfl;have t1:=HT.out.cell 1 _ rfl;have t2:=HT.out.cell 2 _ rfl;have t3:=HT.out.cell 3 _ rfl;have t4:=HT.out.cell 4 _ rfl;have hal:=(Below.refl w4.heap.size w4).alloc (Nat.le_refl _) (.cells #[.slice ap (y).params.length cp,.string (y).result.elem,.string (y).result.shape.row,.slice at_ (y).result.shape.dims.length ct,.slice aq (y).wh.length cq] 57);have HYr:Hid (RSch.rd (fun k=>wr2.heap.size≤k) (w4.alloc (.cells #[.slice ap (y).params.length cp,.string (y).result.elem,.string (y).result.shape.row,.slice at_ (y).result.shape.dims.length ct,.slice aq (y).wh.length cq] 57)) [.slice ap (y).params.length cp,.string (y).result.elem,.string (y).result.shape.row,.slice at_ (y).result.shape.dims.length ct,.slice aq (y).wh.length cq] (y)):=hJ ⟨_,_,_,rfl,⟨ap,cp,rfl,hp.below hal⟩,⟨at_,ct,rfl,ht.below hal⟩,⟨aq,cq,rfl,hq.below hal⟩⟩;have HB5:=hJ (hb4.alloc hz4 (.cells #[.slice ap (y).params.length cp,.string (y).result.elem,.string (y).result.shape.row,.slice at_ (y).result.shape.dims.length ct,.slice aq (y).wh.length cq] 57));have HOld:=HOwn;replace HBX:=hJ (HBX.out.below HB5.out HBX.out.lt);replace HOwn:=hJ (HOwn.out.below HB5.out);replace HRs:=hJ (HRs.out.below HB5.out HRs.out.lt);replace HBl:=hJ (HBl.out.trans (HB5.out.mono HBl.out.size));replace HGb:=hJ ((HB5.out.block gl (by omega)).trans HGb.out);clear hb4 hp ht hq hal HC;have v1:=HBX.out.cell 1 _ rfl;have fv1:=HBX.out.fz 1
         go_wp2_with (at_builtin;refine kA4 elemEnt rfl _ _ rfl W.heap.size _ _ rfl (HOwn.out.alloc _) _ (⟨xn,y⟩:Ent) [.string xn,.slice ap y.params.length cp,.string y.result.elem,.string y.result.shape.row,.slice at_ y.result.shape.dims.length ct,.slice aq y.wh.length cq] rfl ⟨_,rfl,RSch.mono (RSch.below HYr.out ((Below.refl _ _).alloc (Nat.le_refl _) _)) (fun q hq _=>⟨by omega,fun e=>by have:=(HOld.out.block e).2;omega⟩)⟩ (kA6 60 (by (simp only [kAK,kAI,Array.getElem?_push,Array.size_push];simp))) (by omega) (by unfold maxLen;omega) (by simp;omega) ?_;intro v9 w9 hown9 hb9 hk9;obtain ⟨a9,m9,c9,rfl⟩:=hown9.shape;have HX9:=hJ ((HBX.out.alloc _).kp hk9 (HOwn.out.ne (by omega)));have HR9:=hJ ((HRs.out.alloc _).kp hk9 (HOwn.out.ne (by omega)));have z9:=HX9.out.cell 1 _ rfl;have f9:=HX9.out.fz 1;have HG9:Hid (w9.heap[gl]? =W.heap[gl]?):=hJ ((hk9.block gl (by simp;omega) (HOwn.out.ne (by omega))).trans (((Below.refl _ _).alloc (Nat.le_refl _) _).block gl (by simp;omega) |>.trans HGb.out));have hz9:=hb9.size)
         go_roundg (gk - 1)
         case measure=>omega
         case rel=>exact ⟨k+1,es++[⟨xn,y⟩],a9,m9,c9,by omega,by omega,by go_num,by rw [List.length_append];show es.length+1≤_;omega,by have:=hz9;simp at this ⊢;omega,HNx,hJ (fun d hd=>(List.mem_append.mp hd).elim (HV.out d) (fun q=>by rw [List.mem_singleton.mp q];exact ⟨hvy,hx2⟩)),hJ ((kAB (a:=⟨g,1,none⟩) (by show g≠gl;omega)).trans HG9.out),hJ (HX9.out.set 1 _),hJ (hown9.set _ (fun q hq=>by show q≠g;omega) (by show g<_;omega)),hJ (HR9.out.other (by show g≠_;omega)),hJ (((HBl.out.alloc HBl.out.size _).trans (hb9.mono (by omega))).setCell (by show _≤g;omega) _)⟩
     · have hke:k=M.length:=by omega
       have HLs2:Hid (kJ2 M []=some es):=hJ (by rw [HTo0.out,← HRun.out,List.drop_of_length_le (by omega)];rfl);obtain ⟨a9,c9,e9,hsl⟩:=HOwn.out.sl;rw [Value.slice.injEq] at e9;obtain ⟨rfl,rfl,rfl⟩:=e9;have HSe:=hJ (hsl.mono (S':=fun q=>g<q) (fun q hq _=>by rcases hq with q | q <;> omega));have HR3:Hid (res=if kAL ⟨nm,es⟩ && (kC0 ⟨nm,es⟩).toList==s.toList then some ⟨nm,es⟩ else none):=hJ (by rw [HR.out,← HTo0.out,HLs2.out];rfl);have HEr:=hJ (HE.out.env.keep HBl.out h8);have HCv:Hid (Calls Tryz.prog 16 #[.agg #[.string nm,.slice qa es.length qc]] wr fun e w'=>e= .returned (.bool (kAL ⟨nm,es⟩))∧Below wr.heap.size wr w'):=hJ (kE5 (x:=⟨nm,es⟩) HSe.out (fun e he=>⟨schT_sz (HV.out e he).1,Nat.le_trans (HV.out e he).2 (by decide)⟩) (Nat.le_trans hmz (by decide)) HEr.out);have HCx:Hid (∀ W',Below wr.heap.size wr W'→Calls Tryz.prog 19 #[.agg #[.string nm,.slice qa es.length qc]] W' fun e w'=>e= .returned (.string (kC0 ⟨nm,es⟩))∧Below W'.heap.size W' w'):=hJ (fun W' hW=>kIN (x:=⟨nm,es⟩) (HSe.out.below hW) (fun e he=>⟨schT_sz (HV.out e he).1,(HV.out e he).2⟩) hmz (by omega) (HEr.out.below hW));have v0:=HBX.out.cell 0 _ rfl;have v1:=HBX.out.cell 1 _ rfl;have hgr:=HBX.out.lt;clear HOwn hsl HRun HLs2 HR HTo0 HR2;cases hv:kAL ⟨nm,es⟩ with
       | false =>
         have HF:Hid (res=none):=hJ (by rw [HR3.out,hv];rfl);rw [hv] at HCv;clear HCx HR3
         go_wp2_with fail
         refine (HCv.out).mono ?_;rintro e w1 ⟨rfl,hb⟩;replace HRs:=hJ (HRs.out.below hb HRs.out.lt);replace HBl:=hJ (HBl.out.trans (hb.mono HBl.out.size));have z0:=HRs.out.cell 0 _ rfl;have z1:=HRs.out.cell 1 _ rfl;have f0:=HRs.out.fz 0;have f1:=HRs.out.fz 1;have hl0:=HRs.out.lt;have HZz:=hJ ((HRs.out.set 0 (.string ⟨#[]⟩)).set 1 (.slice none 0 0));have s0:=HZz.out.cell 0 _ rfl;have s1:=HZz.out.cell 1 _ rfl
         go_upto_region 16 with fail
         (try simp only []);repeat (first | go_values | go_skip | go_guarded | go_step | go_upon)
         refine bodyPost_ret (v:=.tuple #[.agg #[.string ⟨#[]⟩,.slice none 0 0],.int .i64 6]) (by simp [results,results11,go_sem,s0,s1,hl0]) rfl ?_;have HFr:Hid (∀ W,Sl REnt (fun k=>w.heap.size≤k) W none 0 0 kCV.entries):=hJ (fun W=>Sl.empty REnt _ _);exact ⟨⟨none,0,by rw [HF.out];rfl,by rw [HF.out];exact HFr.out _⟩,(HBl.out.setCell (Nat.le_refl _) _).setCell (Nat.le_refl _) _⟩
       | true =>
         rw [hv] at HCv HR3
         go_wp2_with fail
         refine (HCv.out).mono ?_;rintro e w1 ⟨rfl,hb⟩;have HC2:=hJ (HCx.out _ hb);have HB1:=hJ hb;replace v0:=(hb.cell (by show g<_;omega)).trans v0;replace v1:=(hb.cell (by show g<_;omega)).trans v1;clear HCv HCx;generalize kC0 ⟨nm,es⟩=o at *
         go_wp2_with fail
         refine (HC2.out).mono ?_;rintro e w2 ⟨rfl,hb2⟩;have HB2:=hJ (HB1.out.trans (hb2.mono HB1.out.size));replace v0:=(hb2.cell (by have:=HB1.out.size;show g<_;omega)).trans v0;replace v1:=(hb2.cell (by have:=HB1.out.size;show g<_;omega)).trans v1;replace HRs:=hJ (HRs.out.below HB2.out HRs.out.lt);replace HBl:=hJ (HBl.out.trans (HB2.out.mono HBl.out.size));cases ho:(o.toList==s.toList) with
         | false =>
           have HF:Hid (res=none):=hJ (by rw [HR3.out,ho];rfl);have z0:=HRs.out.cell 0 _ rfl;have z1:=HRs.out.cell 1 _ rfl;have f0:=HRs.out.fz 0;have f1:=HRs.out.fz 1;have hl0:=HRs.out.lt;have HZz:=hJ ((HRs.out.set 0 (.string ⟨#[]⟩)).set 1 (.slice none 0 0));have s0:=HZz.out.cell 0 _ rfl;have s1:=HZz.out.cell 1 _ rfl
           go_upto_region 16 with fail
           (try simp only []);repeat (first | go_values | go_skip | go_guarded | go_step | go_upon)
           refine bodyPost_ret (v:=.tuple #[.agg #[.string ⟨#[]⟩,.slice none 0 0],.int .i64 6]) (by simp [results,results11,go_sem,s0,s1,hl0]) rfl ?_;have HFr:Hid (∀ W,Sl REnt (fun k=>w.heap.size≤k) W none 0 0 kCV.entries):=hJ (fun W=>Sl.empty REnt _ _);exact ⟨⟨none,0,by rw [HF.out];rfl,by rw [HF.out];exact HFr.out _⟩,(HBl.out.setCell (Nat.le_refl _) _).setCell (Nat.le_refl _) _⟩
         | true =>
           have HF:Hid (res=some ⟨nm,es⟩):=hJ (by rw [HR3.out,ho];rfl);have z0:=HRs.out.cell 0 _ rfl;have z1:=HRs.out.cell 1 _ rfl;have f0:=HRs.out.fz 0;have f1:=HRs.out.fz 1;have hl0:=HRs.out.lt
           go_upto_region 17 with fail
           (try simp only []);repeat (first | go_values | go_skip | go_guarded | go_step | go_upon)
           have HZz:=hJ ((HRs.out.set 0 (.string nm)).set 1 (.slice qa es.length qc));have s0:=HZz.out.cell 0 _ rfl;have s1:=HZz.out.cell 1 _ rfl;refine bodyPost_ret (v:=.tuple #[.agg #[.string nm,.slice qa es.length qc],.int .i64 0]) (by simp [results,results11,go_sem,s0,s1,hl0]) rfl ?_;exact ⟨⟨qa,qc,by rw [HF.out];rfl,by rw [HF.out];exact (((HSe.out.below HB2.out).frame (fun q hq _=>kAB (a:=⟨w.heap.size,0,none⟩) (by show w.heap.size≠q;omega))).frame (fun q hq _=>kAB (a:=⟨w.heap.size,1,none⟩) (by show w.heap.size≠q;omega))).mono (fun q hq _=>by show w.heap.size≤q;omega)⟩,(HBl.out.setCell (Nat.le_refl _) _).setCell (Nat.le_refl _) _⟩
 · have HF:Hid (res=none):=hJ (by rw [HR.out,if_neg hok])
   clear HR;cases ok1:hasP x0 capS with
   | false =>
     clear hok;have z0:=HRs.out.cell 0 _ rfl;have z1:=HRs.out.cell 1 _ rfl;have f0:=HRs.out.fz 0;have f1:=HRs.out.fz 1;have hl0:=HRs.out.lt;have HZz:=hJ ((HRs.out.set 0 (.string ⟨#[]⟩)).set 1 (.slice none 0 0));have s0:=HZz.out.cell 0 _ rfl;have s1:=HZz.out.cell 1 _ rfl
     go_upto_region 4 with fail
     (try simp only []);repeat (first | go_values | go_skip | go_guarded | go_step | go_upon)
     refine bodyPost_ret (v:=.tuple #[.agg #[.string ⟨#[]⟩,.slice none 0 0],.int .i64 6]) (by simp [results,results11,go_sem,s0,s1,hl0]) rfl ?_;have HFr:Hid (∀ W,Sl REnt (fun k=>w.heap.size≤k) W none 0 0 kCV.entries):=hJ (fun W=>Sl.empty REnt _ _);exact ⟨⟨none,0,by rw [HF.out];rfl,by rw [HF.out];exact HFr.out _⟩,(HBl.out.setCell (Nat.le_refl _) _).setCell (Nat.le_refl _) _⟩
   | true =>
     have q0:decide ((L.length:Int) > 62)=true:=decide_eq_true (by
      rcases Nat.lt_or_ge 62 L.length with q | q
      · omega
      · exact absurd (by rw [ok1,decide_eq_true q];rfl) hok)
     have q0':decide (62<L.length)=true:=decide_eq_true (by have:=of_decide_eq_true q0;omega);clear hok;have z0:=HRs.out.cell 0 _ rfl;have z1:=HRs.out.cell 1 _ rfl;have f0:=HRs.out.fz 0;have f1:=HRs.out.fz 1;have hl0:=HRs.out.lt;have HZz:=hJ ((HRs.out.set 0 (.string ⟨#[]⟩)).set 1 (.slice none 0 0));have s0:=HZz.out.cell 0 _ rfl;have s1:=HZz.out.cell 1 _ rfl
     go_upto_region 4 with fail
     (try simp only []);repeat (first | go_values | go_skip | go_guarded | go_step | go_upon)
     refine bodyPost_ret (v:=.tuple #[.agg #[.string ⟨#[]⟩,.slice none 0 0],.int .i64 6]) (by simp [results,results11,go_sem,s0,s1,hl0]) rfl ?_;have HFr:Hid (∀ W,Sl REnt (fun k=>w.heap.size≤k) W none 0 0 kCV.entries):=hJ (fun W=>Sl.empty REnt _ _);exact ⟨⟨none,0,by rw [HF.out];rfl,by rw [HF.out];exact HFr.out _⟩,(HBl.out.setCell (Nat.le_refl _) _).setCell (Nat.le_refl _) _⟩
theorem ref11_Parse (s:Str) (hs:s.size≤10000) (w:World) :
 Calls Tryz.prog 117 #[.string s] w fun e w'=>(∃ ds,e= .returned (.tuple #[.agg ds.toArray,.int .i64 (optE (readR s))])∧RShp.rd (fun k=>w.heap.size≤k) w' ds (optH (readR s)))∧Below w.heap.size w w':=by
 have HR:Hid (readR s=if okS s then (match goPR s.size (s.extract 1 (s.size - 1)) 0 ⟨⟨#[]⟩,[]⟩ with | none=>none | some x=>if kAF x && (kA9 x).toList==s.toList then some x else none) else none):=hJ rfl;generalize readR s=res at *;have HRb:=hJ (Bx.fresh w 52 [.string ⟨#[]⟩,.slice none 0 0]);have HB0:=hJ ((Below.refl _ w).alloc (Nat.le_refl _) (.cells #[.string ⟨#[]⟩,.slice none 0 0] 52));go_enter func117,ntmps117;by_cases hlt:s.size<2
 · have HF:Hid (res=none):=hJ (by rw [HR.out,if_neg (by unfold okS;rw [decide_eq_true hlt];exact Bool.false_ne_true)])
   have q1:decide ((s.size:Int)<2)=true:=decide_eq_true (by omega);have HRs:=HRb;have HBl:=HB0;clear HR HRb HB0;have z0:=HRs.out.cell 0 _ rfl;have z1:=HRs.out.cell 1 _ rfl;have f0:=HRs.out.fz 0;have f1:=HRs.out.fz 1;have hl0:=HRs.out.lt;have HZz:=hJ ((HRs.out.set 0 (.string ⟨#[]⟩)).set 1 (.slice none 0 0));have s0:=HZz.out.cell 0 _ rfl;have s1:=HZz.out.cell 1 _ rfl
   go_wp2_with fail
   refine bodyPost_ret (v:=.tuple #[.agg #[.string ⟨#[]⟩,.slice none 0 0],.int .i64 6]) (by simp [results,results117,go_sem,s0,s1,hl0]) rfl ?_;have HFr:Hid (∀ W,RShp.rd (fun k=>w.heap.size≤k) W [.string ⟨#[]⟩,.slice none 0 0] (optH res)):=hJ (fun W=>by rw [HF.out];exact ⟨_,rfl,none,0,rfl,Sl.empty RLin _ _⟩)
   first
    | exact ⟨⟨_,by rw [HF.out];rfl,HFr.out _⟩,HBl.out⟩
    | exact ⟨⟨_,by rw [HF.out];rfl,HFr.out _⟩,(HBl.out.setCell (Nat.le_refl _) _).setCell (Nat.le_refl _) _⟩
 · have q1:decide ((s.size:Int)<2)=false:=decide_eq_false (by omega)
   have g0:=kBH s 0 (by omega);have g1:=kBH s (s.size - 1) (by omega);have HOk:Hid (okS s=(bt s 0==91 && bt s (s.size - 1)==93)):=hJ (by unfold okS;rw [decide_eq_false hlt];rfl);generalize bt s 0=c0 at *;generalize bt s (s.size - 1)=c1 at *;have hto:((s.size:Int) - 1).toNat=s.size - 1:=by omega
   cases hc0:(c0==91) with
   | false =>
     have n0:(c0 != 91)=true:=by unfold bne;rw [hc0];rfl
     have HF:Hid (res=none):=hJ (by rw [HR.out,HOk.out,hc0];rfl);have HRs:=HRb;have HBl:=HB0;clear HR HRb HB0;have z0:=HRs.out.cell 0 _ rfl;have z1:=HRs.out.cell 1 _ rfl;have f0:=HRs.out.fz 0;have f1:=HRs.out.fz 1;have hl0:=HRs.out.lt;have HZz:=hJ ((HRs.out.set 0 (.string ⟨#[]⟩)).set 1 (.slice none 0 0));have s0:=HZz.out.cell 0 _ rfl;have s1:=HZz.out.cell 1 _ rfl
     go_wp2_with fail
     refine bodyPost_ret (v:=.tuple #[.agg #[.string ⟨#[]⟩,.slice none 0 0],.int .i64 6]) (by simp [results,results117,go_sem,s0,s1,hl0]) rfl ?_;have HFr:Hid (∀ W,RShp.rd (fun k=>w.heap.size≤k) W [.string ⟨#[]⟩,.slice none 0 0] (optH res)):=hJ (fun W=>by rw [HF.out];exact ⟨_,rfl,none,0,rfl,Sl.empty RLin _ _⟩)
     first
      | exact ⟨⟨_,by rw [HF.out];rfl,HFr.out _⟩,HBl.out⟩
      | exact ⟨⟨_,by rw [HF.out];rfl,HFr.out _⟩,(HBl.out.setCell (Nat.le_refl _) _).setCell (Nat.le_refl _) _⟩
   | true =>
     have n0:(c0 != 91)=false:=by unfold bne;rw [hc0];rfl
     cases hc1:(c1==93) with
     | false =>
       have n1:(c1 != 93)=true:=by unfold bne;rw [hc1];rfl
       have HF:Hid (res=none):=hJ (by rw [HR.out,HOk.out,hc0,hc1];rfl);have HRs:=HRb;have HBl:=HB0;clear HR HRb HB0;have z0:=HRs.out.cell 0 _ rfl;have z1:=HRs.out.cell 1 _ rfl;have f0:=HRs.out.fz 0;have f1:=HRs.out.fz 1;have hl0:=HRs.out.lt;have HZz:=hJ ((HRs.out.set 0 (.string ⟨#[]⟩)).set 1 (.slice none 0 0));have s0:=HZz.out.cell 0 _ rfl;have s1:=HZz.out.cell 1 _ rfl
       go_wp2_with fail
       refine bodyPost_ret (v:=.tuple #[.agg #[.string ⟨#[]⟩,.slice none 0 0],.int .i64 6]) (by simp [results,results117,go_sem,s0,s1,hl0]) rfl ?_;have HFr:Hid (∀ W,RShp.rd (fun k=>w.heap.size≤k) W [.string ⟨#[]⟩,.slice none 0 0] (optH res)):=hJ (fun W=>by rw [HF.out];exact ⟨_,rfl,none,0,rfl,Sl.empty RLin _ _⟩)
       first
        | exact ⟨⟨_,by rw [HF.out];rfl,HFr.out _⟩,HBl.out⟩
        | exact ⟨⟨_,by rw [HF.out];rfl,HFr.out _⟩,(HBl.out.setCell (Nat.le_refl _) _).setCell (Nat.le_refl _) _⟩
     | true =>
       have HR2:Hid (res=match goPR s.size (s.extract 1 (s.size - 1)) 0 ⟨⟨#[]⟩,[]⟩ with | none=>none | some x=>if kAF x && (kA9 x).toList==s.toList then some x else none):=hJ (by rw [HR.out,HOk.out,hc0,hc1];rfl);have hri:(s.extract 1 (s.size - 1)).size=s.size - 1 - 1:=kBM s (by omega);have n1:(c1 != 93)=false:=by unfold bne;rw [hc1];rfl
       clear HR HOk
       go_wp2_with fail
       have HRs:=hJ (HRb.out.alloc (.cells #[.string ⟨#[]⟩,.slice none 0 0] 52));have HOs:=hJ (Bx.fresh (w.alloc (.cells #[.string ⟨#[]⟩,.slice none 0 0] 52)) 52 [.string ⟨#[]⟩,.slice none 0 0]);have e1:(w.alloc (.cells #[.string ⟨#[]⟩,.slice none 0 0] 52)).heap.size=w.heap.size+1:=by simp
       have HBl:=hJ (HB0.out.alloc (by rw [e1];omega) (.cells #[.string ⟨#[]⟩,.slice none 0 0] 52));rw [e1] at HOs;clear HRb HB0 e1 g0 g1 q1;generalize (w.alloc (.cells #[.string ⟨#[]⟩,.slice none 0 0] 52)).alloc (.cells #[.string ⟨#[]⟩,.slice none 0 0] 52)=W at *;obtain ⟨tot,hto⟩:∃ tot,tot=goPR s.size (s.extract 1 (s.size - 1)) 0 ⟨⟨#[]⟩,[]⟩:=⟨_,rfl⟩
       rw [← hto] at HR2;have HTo:=hJ hto.symm;clear hto;generalize s.extract 1 (s.size - 1)=r0 at *
       go_loopg [5,6] (s.size) (fun g v5 v6 wr=>∃ (r:Str) (n:Nat) (acc:Shp),v5= .string r∧v6= .int .i64 n∧n+r.size≤s.size∧r.size<g∧acc.dims.length≤6∧acc.row.size≤10000∧Hid (∀ d ∈ acc.dims,kAC d=true)∧Hid (goPR g r n acc=tot)∧Hid (∃ v,Bx wr (w.heap.size+1) 52 [.string acc.row,v]∧Own RLin 49 (fun q=>w.heap.size+1<q) wr (w.heap.size+2) v acc.dims)∧Hid (Bx wr w.heap.size 52 [.string ⟨#[]⟩,.slice none 0 0])∧Hid (Below w.heap.size w wr))
       case atStart=>exact ⟨r0,0,⟨⟨#[]⟩,[]⟩,rfl,rfl,by omega,by omega,Nat.zero_le _,by decide,hJ (fun d hd=>by cases hd),HTo,hJ ⟨_,HOs.out,Own.nil _ _ _ _ _⟩,HRs,HBl⟩
       case round =>
        clear HRs HOs HBl HTo hri;obtain ⟨r,n,acc,rfl,rfl,hnr,hrg,hdl,hrz,HV,HRun,HO,HRs,HBl⟩:=hrel;obtain ⟨g,rfl⟩:∃ g,gk=g+1:=⟨gk - 1,by omega⟩
        obtain ⟨v,hbx,hown⟩:=HO.out;have HBX:=hJ hbx;have HOwn:=hJ hown;obtain ⟨va,vc,rfl,hsl⟩:=hown.sl;have HSl:=hJ hsl;clear HO hbx hown hsl;have hws:w.heap.size+1<wr.heap.size:=HBX.out.lt;cases hre:r.toList.isEmpty with
        | true =>
          have hr0:r.size=0:=by
           rw [ByteArray.toList_eq] at hre;have e:=List.isEmpty_iff.mp hre;have e2:r.data.toList.length=0:=by rw [e];rfl
           rw [Array.length_toList] at e2;exact e2
          have HTot:Hid (tot=some acc):=hJ (by rw [← HRun.out];show (if r.size=0 then _ else _)=_;rw [if_pos hr0]);have HR3:Hid (res=if kAF acc && (kA9 acc).toList==s.toList then some acc else none):=hJ (by rw [HR2.out,HTot.out]);have hz:szH acc:=⟨hrz,fun d hd=>kFU (HV.out d hd)⟩
          have HRd:Hid (RShp.rd (fun q=>w.heap.size+1<q) wr [.string acc.row,.slice va acc.dims.length vc] acc):=hJ ⟨_,rfl,va,vc,rfl,HSl.out.mono (fun q hq _=>by rcases hq with q | q <;> omega)⟩;have HCp:=hJ (ref11_Print HRd.out hz);have v0:=HBX.out.cell 0 _ rfl;have v1:=HBX.out.cell 1 _ rfl;clear HRun HR2 HTot;generalize acc.dims.length=vm at *;cases hv:kAF acc with
          | false =>
            have HF:Hid (res=none):=hJ (by rw [HR3.out,hv];rfl);rw [hv] at HCp;have HVe:Hid (kB6 false=1):=hJ rfl;rw [HVe.out] at HCp;clear HR3 HRd
            go_wp2_with fail
            refine (HCp.out).mono ?_;rintro e w1 ⟨rfl,hb⟩;replace HRs:=hJ (HRs.out.below hb HRs.out.lt);replace HBl:=hJ (HBl.out.trans (hb.mono HBl.out.size));have z0:=HRs.out.cell 0 _ rfl;have z1:=HRs.out.cell 1 _ rfl;have f0:=HRs.out.fz 0;have f1:=HRs.out.fz 1;have hl0:=HRs.out.lt;have HZz:=hJ ((HRs.out.set 0 (.string ⟨#[]⟩)).set 1 (.slice none 0 0));have s0:=HZz.out.cell 0 _ rfl;have s1:=HZz.out.cell 1 _ rfl
            go_wp2_with fail
            refine bodyPost_ret (v:=.tuple #[.agg #[.string ⟨#[]⟩,.slice none 0 0],.int .i64 6]) (by simp [results,results117,go_sem,s0,s1,hl0]) rfl ?_;have HFr:Hid (∀ W,RShp.rd (fun k=>w.heap.size≤k) W [.string ⟨#[]⟩,.slice none 0 0] (optH res)):=hJ (fun W=>by rw [HF.out];exact ⟨_,rfl,none,0,rfl,Sl.empty RLin _ _⟩)
            first
             | exact ⟨⟨_,by rw [HF.out];rfl,HFr.out _⟩,HBl.out⟩
             | exact ⟨⟨_,by rw [HF.out];rfl,HFr.out _⟩,(HBl.out.setCell (Nat.le_refl _) _).setCell (Nat.le_refl _) _⟩
          | true =>
            have HPe:Hid (kCC acc=kA9 acc):=hJ (by unfold kCC;rw [hv];rfl);rw [hv] at HCp HR3;have HVe:Hid (kB6 true=0):=hJ rfl;rw [HVe.out,HPe.out] at HCp;generalize kA9 acc=o at *
            go_wp2_with fail
            refine (HCp.out).mono ?_;rintro e w2 ⟨rfl,hb⟩;have HB2:=hJ hb;replace HRs:=hJ (HRs.out.below hb HRs.out.lt);replace HBl:=hJ (HBl.out.trans (hb.mono HBl.out.size));replace v0:=(hb.cell (by show w.heap.size+1<_;omega)).trans v0;replace v1:=(hb.cell (by show w.heap.size+1<_;omega)).trans v1;cases ho:(o.toList==s.toList) with
            | false =>
              have HF:Hid (res=none):=hJ (by rw [HR3.out,ho];rfl);have z0:=HRs.out.cell 0 _ rfl;have z1:=HRs.out.cell 1 _ rfl;have f0:=HRs.out.fz 0;have f1:=HRs.out.fz 1;have hl0:=HRs.out.lt;have HZz:=hJ ((HRs.out.set 0 (.string ⟨#[]⟩)).set 1 (.slice none 0 0));have s0:=HZz.out.cell 0 _ rfl;have s1:=HZz.out.cell 1 _ rfl
              go_wp2_with fail
              refine bodyPost_ret (v:=.tuple #[.agg #[.string ⟨#[]⟩,.slice none 0 0],.int .i64 6]) (by simp [results,results117,go_sem,s0,s1,hl0]) rfl ?_;have HFr:Hid (∀ W,RShp.rd (fun k=>w.heap.size≤k) W [.string ⟨#[]⟩,.slice none 0 0] (optH res)):=hJ (fun W=>by rw [HF.out];exact ⟨_,rfl,none,0,rfl,Sl.empty RLin _ _⟩)
              first
               | exact ⟨⟨_,by rw [HF.out];rfl,HFr.out _⟩,HBl.out⟩
               | exact ⟨⟨_,by rw [HF.out];rfl,HFr.out _⟩,(HBl.out.setCell (Nat.le_refl _) _).setCell (Nat.le_refl _) _⟩
            | true =>
              have HF:Hid (res=some acc):=hJ (by rw [HR3.out,ho];rfl);have z0:=HRs.out.cell 0 _ rfl;have z1:=HRs.out.cell 1 _ rfl;have f0:=HRs.out.fz 0;have f1:=HRs.out.fz 1;have hl0:=HRs.out.lt
              go_wp2_with fail
              have HZz:=hJ ((HRs.out.set 0 (.string acc.row)).set 1 (.slice va vm vc));have s0:=HZz.out.cell 0 _ rfl;have s1:=HZz.out.cell 1 _ rfl;refine bodyPost_ret (v:=.tuple #[.agg #[.string acc.row,.slice va vm vc],.int .i64 0]) (by simp [results,results117,go_sem,s0,s1,hl0]) rfl ?_;exact ⟨⟨_,by rw [HF.out];rfl,by rw [HF.out];exact RShp.mono (RShp.frame (RShp.frame (RShp.below HRd.out HB2.out) (fun q hq _=>kAB (a:=⟨w.heap.size,0,none⟩) (by show w.heap.size≠q;omega))) (fun q hq _=>kAB (a:=⟨w.heap.size,1,none⟩) (by show w.heap.size≠q;omega))) (fun q hq _=>by show w.heap.size≤q;omega)⟩,(HBl.out.setCell (Nat.le_refl _) _).setCell (Nat.le_refl _) _⟩
        | false =>
          have hr0:¬ r.size=0:=fun e=>by
           rw [ByteArray.toList_eq,show r.data.toList=[] from List.eq_nil_of_length_eq_zero (by rw [Array.length_toList];exact e)] at hre;cases hre
          replace HRun:Hid ((if badT (r.extract (comE r) r.size) then none else match stepR n (r.extract 0 (comE r)) acc with | none=>none | some acc'=>goPR g (restT (r.extract (comE r) r.size)) (n+1) acc')=tot):=hJ (by rw [← HRun.out];show _=(if r.size=0 then _ else _);rw [if_neg hr0];rfl)
          go_upto_block 2 with fail
          go_cut [7] (fun v7 W2=>∃ j:Nat,v7= .int .i64 j∧j≤r.size∧Hid (j=comE r)∧wr=W2)
          case first =>
           go_wp2_with fail
           go_loopw [7] (fun i W2=>∃ j:Nat,j≤r.size∧i= .int .i64 j∧Hid (kBW (fun i=> !(bt r i==44)) r.size j=comE r)∧wr=W2) (fun i _=>r.size - (intOf i).toNat)
           case atStart=>exact ⟨0,Nat.zero_le _,rfl,hJ rfl,rfl⟩
           case round =>
            obtain ⟨j,hj,rfl,HE,rfl⟩:=hrel;by_cases hlt:j<r.size
            · have q1:decide ((j:Int)<(r.size:Int))=true:=decide_eq_true (by omega)
              have g0:=kBH r j hlt;have HYj:Hid ((bt r j==44)=false→kBW (fun i=> !(bt r i==44)) r.size j=kBW (fun i=> !(bt r i==44)) r.size (j+1)):=hJ (fun h=>kDT hlt (by rw [h];rfl));have HNj:Hid ((bt r j==44)=true→kBW (fun i=> !(bt r i==44)) r.size j=j):=hJ (fun h=>kB0 (by rw [h];rfl));generalize bt r j=c at *;cases hc:(c==44) with
              | false =>
                have n0:(c != 44)=true:=by unfold bne;rw [hc];rfl
                go_wp2_with fail
                go_roundw
                case rel=>exact ⟨j+1,by omega,by go_num,hJ ((HYj.out hc).symm.trans HE.out),by trivial⟩
                case measure=>simp [intOf];omega
              | true =>
                have n0:(c != 44)=false:=by unfold bne;rw [hc];rfl
                have HF:Hid (j=comE r):=hJ ((HNj.out hc).symm.trans HE.out)
                go_wp2_with fail
                go_meet
                exact ⟨j,rfl,hj,HF,rfl⟩
            · have q1:decide ((j:Int)<(r.size:Int))=false:=decide_eq_false (by omega)
              have HF:Hid (j=comE r):=hJ ((kBO (by omega)).symm.trans HE.out)
              go_wp2_with fail
              go_meet
              exact ⟨j,rfl,hj,HF,rfl⟩
          case rest =>
           obtain ⟨j,rfl,hj,HF,rfl⟩:=hcut;have HSb:=hJ (kBM r (a:=j) (b:=r.size) (Nat.le_refl _));have HSa:=hJ (kBM r (a:=0) (b:=j) hj);rw [← HF.out] at HRun;obtain ⟨t,ht⟩:∃ t,r.extract j r.size=t:=⟨_,rfl⟩
           obtain ⟨x,hx⟩:∃ x,r.extract 0 j=x:=⟨_,rfl⟩
           rw [ht] at HRun HSb;rw [hx] at HRun HSa
           go_upto_if 59 with fail
           go_cut [5] (fun v5 W2=>∃ r2:Str,v5= .string r2∧Hid (r2.size<r.size)∧Hid (badT t=false)∧Hid (r2=restT t)∧wr=W2)
           case first =>
            by_cases ht0:0<t.size
            · have q2:decide ((0:Int)<(t.size:Int))=true:=decide_eq_true (by omega)
              by_cases ht3:t.size<3
              · have q3:decide ((t.size:Int)<3)=true:=decide_eq_true (by omega)
                replace HF:Hid (res=none):=hJ (by rw [HR2.out,← HRun.out,if_pos (by unfold badT;rw [decide_eq_true ht0,decide_eq_true ht3];rfl)]);have z0:=HRs.out.cell 0 _ rfl;have z1:=HRs.out.cell 1 _ rfl;have f0:=HRs.out.fz 0;have f1:=HRs.out.fz 1;have hl0:=HRs.out.lt;have HZz:=hJ ((HRs.out.set 0 (.string ⟨#[]⟩)).set 1 (.slice none 0 0));have s0:=HZz.out.cell 0 _ rfl;have s1:=HZz.out.cell 1 _ rfl
                go_wp2_with fail
                refine bodyPost_ret (v:=.tuple #[.agg #[.string ⟨#[]⟩,.slice none 0 0],.int .i64 6]) (by simp [results,results117,go_sem,s0,s1,hl0]) rfl ?_;have HFr:Hid (∀ W,RShp.rd (fun k=>w.heap.size≤k) W [.string ⟨#[]⟩,.slice none 0 0] (optH res)):=hJ (fun W=>by rw [HF.out];exact ⟨_,rfl,none,0,rfl,Sl.empty RLin _ _⟩)
                first
                 | exact ⟨⟨_,by rw [HF.out];rfl,HFr.out _⟩,HBl.out⟩
                 | exact ⟨⟨_,by rw [HF.out];rfl,HFr.out _⟩,(HBl.out.setCell (Nat.le_refl _) _).setCell (Nat.le_refl _) _⟩
              · have q3:decide ((t.size:Int)<3)=false:=decide_eq_false (by omega)
                have g1:=kBH t 1 (by omega);have hbd:badT t= !(bt t 1==32):=by unfold badT;rw [decide_eq_true ht0,decide_eq_false ht3];rfl
                generalize bt t 1=c2 at *;cases hc2:(c2==32) with
                | false =>
                  have n2:(c2 != 32)=true:=by unfold bne;rw [hc2];rfl
                  replace HF:Hid (res=none):=hJ (by rw [HR2.out,← HRun.out,hbd,hc2];rfl);have z0:=HRs.out.cell 0 _ rfl;have z1:=HRs.out.cell 1 _ rfl;have f0:=HRs.out.fz 0;have f1:=HRs.out.fz 1;have hl0:=HRs.out.lt;have HZz:=hJ ((HRs.out.set 0 (.string ⟨#[]⟩)).set 1 (.slice none 0 0));have s0:=HZz.out.cell 0 _ rfl;have s1:=HZz.out.cell 1 _ rfl
                  go_wp2_with fail
                  refine bodyPost_ret (v:=.tuple #[.agg #[.string ⟨#[]⟩,.slice none 0 0],.int .i64 6]) (by simp [results,results117,go_sem,s0,s1,hl0]) rfl ?_;have HFr:Hid (∀ W,RShp.rd (fun k=>w.heap.size≤k) W [.string ⟨#[]⟩,.slice none 0 0] (optH res)):=hJ (fun W=>by rw [HF.out];exact ⟨_,rfl,none,0,rfl,Sl.empty RLin _ _⟩)
                  first
                   | exact ⟨⟨_,by rw [HF.out];rfl,HFr.out _⟩,HBl.out⟩
                   | exact ⟨⟨_,by rw [HF.out];rfl,HFr.out _⟩,(HBl.out.setCell (Nat.le_refl _) _).setCell (Nat.le_refl _) _⟩
                | true =>
                  have n2:(c2 != 32)=false:=by unfold bne;rw [hc2];rfl
                  have HS2:=hJ (kBM t (a:=2) (b:=t.size) (Nat.le_refl _))
                  go_wp2_with fail
                  go_meet
                  exact ⟨_,rfl,hJ (by have:=HS2.out;have:=HSb.out;omega),hJ (by rw [hbd,hc2];rfl),hJ (by unfold restT;rw [if_pos ht0]),rfl⟩
            · have q2:decide ((0:Int)<(t.size:Int))=false:=decide_eq_false (by omega)
              go_wp2_with fail
              go_meet
              exact ⟨_,rfl,hJ (by omega),hJ (by unfold badT;rw [decide_eq_false ht0];rfl),hJ (by unfold restT;rw [if_neg ht0]),rfl⟩
           case rest =>
            obtain ⟨r2,rfl,HR2z,hbT,hrT,rfl⟩:=hcut;replace HRun:Hid ((match stepR n x acc with | none=>none | some acc'=>goPR g r2 (n+1) acc')=tot):=hJ (by rw [← HRun.out,hbT.out,← hrT.out];rfl);clear hbT hrT HSb;have hxb:x.size≤10000:=by have:=HSa.out;omega
            go_upto_region 17 with fail
            go_cut [85] (fun v W2=>v= .bool (kJ6 n x)∧wr=W2)
            case first =>
             by_cases hn:n=0
             · have hn1:(n:Int)=0:=by omega
               by_cases hx2:2<x.size
               · have q5:decide ((2:Int)<(x.size:Int))=true:=decide_eq_true (by omega)
                 have hto2:((x.size:Int) - 2).toNat=x.size - 2:=by omega
                 have hRw:kJ6 n x=((x.extract (x.size - 2) x.size).toList==[46,46]):=by unfold kJ6;rw [decide_eq_true hx2,decide_eq_true hn];rfl
                 go_wp2_with fail
                 go_meet
                 exact ⟨by rw [hRw],rfl⟩
               · have q5:decide ((2:Int)<(x.size:Int))=false:=decide_eq_false (by omega)
                 have hrw:kJ6 n x=false:=by unfold kJ6;rw [decide_eq_false hx2];simp
                 go_wp2_with fail
                 go_meet
                 exact ⟨by rw [hrw],rfl⟩
             · have hn1:¬ ((n:Int)=0):=by omega
               have hrw:kJ6 n x=false:=by unfold kJ6;rw [decide_eq_false hn];rfl
               go_wp2_with fail
               go_meet
               exact ⟨by rw [hrw],rfl⟩
            case rest =>
             obtain ⟨rfl,rfl⟩:=hcut;cases hrw:kJ6 n x with
             | true =>
               have hx2:2<x.size:=by
                unfold kJ6 at hrw;rw [Bool.and_eq_true,Bool.and_eq_true] at hrw;exact of_decide_eq_true hrw.1.2
               have hto2:((x.size:Int) - 2).toNat=x.size - 2:=by omega
               have HXr:=hJ (kBM x (a:=0) (b:=x.size - 2) (by omega));have HNx:Hid (goPR g r2 (n+1) ⟨x.extract 0 (x.size - 2),acc.dims⟩=tot):=hJ (by have q:=HRun.out;unfold stepR at q;rw [hrw,if_pos rfl] at q;exact q);have z0:=HBX.out.cell 0 _ rfl;have f0:=HBX.out.fz 0;clear HRun
               go_wp2_with fail
               go_roundg g
               case measure=>omega
               case rel=>exact ⟨r2,n+1,⟨x.extract 0 (x.size - 2),acc.dims⟩,rfl,by go_num,by have:=HR2z.out;omega,by have:=HR2z.out;omega,hdl,by show (x.extract 0 (x.size - 2)).size≤_;have:=HXr.out;omega,HV,HNx,hJ ⟨_,HBX.out.set 0 _,HOwn.out.set _ (fun q hq=>by show q≠w.heap.size+1;omega) (by show w.heap.size+1<_;omega)⟩,hJ (HRs.out.other (by show w.heap.size+1≠_;omega)),hJ (HBl.out.setCell (by show _≤w.heap.size+1;omega) _)⟩
             | false =>
               have HC:=hJ (ref04_Parse x (by have:=HSa.out;omega) wr);have HVl:=hJ (lossX_sz (kBA (kCD x) x));have HStep:Hid (stepR n x acc=if kES (kBA (kCD x) x)=0∧¬ acc.dims.length=6 then some ⟨acc.row,acc.dims++[kER (kBA (kCD x) x)]⟩ else none):=hJ (by unfold stepR;rw [hrw,if_neg Bool.false_ne_true]);generalize kES (kBA (kCD x) x)=er at *;generalize kER (kBA (kCD x) x)=y at *
               go_wp2_with fail
               refine HC.out.mono ?_;rintro e w4 ⟨⟨ds,rfl,ty,rfl,ay,cy,rfl,hy⟩,hb4⟩;have HOld:=HOwn;have hz4:=hb4.size;have HT:=hJ (Bx.fresh w4 49 [.int .i64 y.const,.slice ay y.terms.length cy]);have t0:=HT.out.cell 0 _ rfl;have t1:=HT.out.cell 1 _ rfl;have HY:Hid (Sl kCB (fun k=>wr.heap.size≤k) (w4.alloc (.cells #[.int .i64 y.const,.slice ay y.terms.length cy] 49)) ay y.terms.length cy y.terms):=hJ (hy.below ((Below.refl _ _).alloc (Nat.le_refl _) _));have HB5:Hid (Below wr.heap.size wr (w4.alloc (.cells #[.int .i64 y.const,.slice ay y.terms.length cy] 49))):=hJ (hb4.alloc hz4 _);replace HBX:=hJ (HBX.out.below HB5.out HBX.out.lt);replace HOwn:=hJ (HOwn.out.below HB5.out);replace HRs:=hJ (HRs.out.below HB5.out HRs.out.lt);replace HBl:=hJ (HBl.out.trans (HB5.out.mono HBl.out.size));have v0:=HBX.out.cell 0 _ rfl;have v1:=HBX.out.cell 1 _ rfl;have fv1:=HBX.out.fz 1;clear hb4 hy HC;by_cases her:er=0
               · subst her
                 by_cases hd6:acc.dims.length=6
                 · have hd7:((acc.dims.length:Int)==6)=true:=beq_iff_eq.2 (by omega)
                   replace HF:Hid (res=none):=hJ (by have q:=HRun.out;rw [HStep.out,if_neg (fun h=>h.2 hd6)] at q;rw [HR2.out,← q]);clear HRun HStep hd6;have z0:=HRs.out.cell 0 _ rfl;have z1:=HRs.out.cell 1 _ rfl;have f0:=HRs.out.fz 0;have f1:=HRs.out.fz 1;have hl0:=HRs.out.lt;have HZz:=hJ ((HRs.out.set 0 (.string ⟨#[]⟩)).set 1 (.slice none 0 0));have s0:=HZz.out.cell 0 _ rfl;have s1:=HZz.out.cell 1 _ rfl
                   go_wp2_with fail
                   refine bodyPost_ret (v:=.tuple #[.agg #[.string ⟨#[]⟩,.slice none 0 0],.int .i64 6]) (by simp [results,results117,go_sem,s0,s1,hl0]) rfl ?_;have HFr:Hid (∀ W,RShp.rd (fun k=>w.heap.size≤k) W [.string ⟨#[]⟩,.slice none 0 0] (optH res)):=hJ (fun W=>by rw [HF.out];exact ⟨_,rfl,none,0,rfl,Sl.empty RLin _ _⟩)
                   first
                    | exact ⟨⟨_,by rw [HF.out];rfl,HFr.out _⟩,HBl.out⟩
                    | exact ⟨⟨_,by rw [HF.out];rfl,HFr.out _⟩,(HBl.out.setCell (Nat.le_refl _) _).setCell (Nat.le_refl _) _⟩
                 · have hd7:¬ (acc.dims.length:Int)=6:=by omega
                   have HNx:Hid (goPR g r2 (n+1) ⟨acc.row,acc.dims++[y]⟩=tot):=hJ (by have q:=HRun.out;rw [HStep.out,if_pos ⟨rfl,hd6⟩] at q;exact q);have hvy:Hid (kAC y=true):=hJ (HVl.out rfl);clear HStep HRun HVl
                   go_wp2_with (at_builtin;refine kA4 kFA rfl _ _ rfl (w.heap.size+2) _ _ rfl (HOwn.out.alloc _) _ y [.int .i64 y.const,.slice ay y.terms.length cy] rfl ⟨_,rfl,ay,cy,rfl,(HY.out.below ((Below.refl _ _).alloc (Nat.le_refl _) _)).mono (fun q hq _=>⟨by omega,fun e=>by have:=(HOld.out.block e).2;omega⟩)⟩ (kA6 49 (by (simp only [kAK,kAI,Array.getElem?_push,Array.size_push];simp))) (by omega) (by unfold maxLen;omega) (by simp;omega) ?_;intro v9 w9 hown9 hb9 hk9;obtain ⟨a9,m9,c9,rfl⟩:=hown9.shape;have HX9:=hJ ((HBX.out.alloc _).kp hk9 (HOwn.out.ne (by omega)));have HR9:=hJ ((HRs.out.alloc _).kp hk9 (HOwn.out.ne (by omega)));have z9:=HX9.out.cell 1 _ rfl;have f9:=HX9.out.fz 1)
                   go_roundg g
                   case measure=>omega
                   case rel=>exact ⟨r2,n+1,⟨acc.row,acc.dims++[y]⟩,rfl,by go_num,by have:=HR2z.out;omega,by have:=HR2z.out;omega,by rw [List.length_append];show acc.dims.length+1≤_;omega,hrz,hJ (fun d hd=>(List.mem_append.mp hd).elim (HV.out d) (fun q=>by rw [List.mem_singleton.mp q];exact hvy.out)),HNx,hJ ⟨_,HX9.out.set 1 _,hown9.set _ (fun q hq=>by show q≠w.heap.size+1;omega) (by show w.heap.size+1<_;omega)⟩,hJ (HR9.out.other (by show w.heap.size+1≠_;omega)),hJ (((HBl.out.alloc HBl.out.size _).trans (hb9.mono (by omega))).setCell (by show _≤w.heap.size+1;omega) _)⟩
               · replace HF:Hid (res=none):=hJ (by have q:=HRun.out;rw [HStep.out,if_neg (fun h=>her h.1)] at q;rw [HR2.out,← q])
                 clear HRun HStep;have z0:=HRs.out.cell 0 _ rfl;have z1:=HRs.out.cell 1 _ rfl;have f0:=HRs.out.fz 0;have f1:=HRs.out.fz 1;have hl0:=HRs.out.lt;have HZz:=hJ ((HRs.out.set 0 (.string ⟨#[]⟩)).set 1 (.slice none 0 0));have s0:=HZz.out.cell 0 _ rfl;have s1:=HZz.out.cell 1 _ rfl
                 go_wp2_with fail
                 refine bodyPost_ret (v:=.tuple #[.agg #[.string ⟨#[]⟩,.slice none 0 0],.int .i64 6]) (by simp [results,results117,go_sem,s0,s1,hl0]) rfl ?_;have HFr:Hid (∀ W,RShp.rd (fun k=>w.heap.size≤k) W [.string ⟨#[]⟩,.slice none 0 0] (optH res)):=hJ (fun W=>by rw [HF.out];exact ⟨_,rfl,none,0,rfl,Sl.empty RLin _ _⟩)
                 first
                  | exact ⟨⟨_,by rw [HF.out];rfl,HFr.out _⟩,HBl.out⟩
                  | exact ⟨⟨_,by rw [HF.out];rfl,HFr.out _⟩,(HBl.out.setCell (Nat.le_refl _) _).setCell (Nat.le_refl _) _⟩
theorem ref11_Parse_some {s:Str} {x:Shp} (h:kF9 s=some x) (hs:s.size≤10000) (w:World) :
 Calls Tryz.prog 117 #[.string s] w fun e w'=>(∃ ds,e= .returned (.tuple #[.agg ds.toArray,.int .i64 0])∧RShp.rd (fun k=>w.heap.size≤k) w' ds x)∧Below w.heap.size w w':=by
 have:=ref11_Parse s hs w;rw [readR_eq,h] at this;exact this
theorem ref11_Parse_none {s:Str} (h:kF9 s=none) (hs:s.size≤10000) (w:World) :
 Calls Tryz.prog 117 #[.string s] w fun e w'=>(∃ ds,e= .returned (.tuple #[.agg ds.toArray,.int .i64 6])∧RShp.rd (fun k=>w.heap.size≤k) w' ds kDE)∧Below w.heap.size w w':=by
 have:=ref11_Parse s hs w;rw [readR_eq,h] at this;exact this
theorem lastK_le (s:Str):∀ k,kHR s k≤k
 | 0=>Nat.le_refl _
 | k+1=>by
   rw [kH9];have:=lastK_le s k
   split <;> omega
theorem ref12_Parse (s:Str) (hs:s.size≤10000) (w:World) :
 Calls Tryz.prog 60 #[.string s] w fun e w'=>(∃ ds,e= .returned (.tuple #[.agg ds.toArray,.int .i64 (optE (kC2 s))])∧RTyp.rd (fun k=>w.heap.size≤k) w' ds (optT (kC2 s)))∧Below w.heap.size w w':=by
 have HR:Hid (kC2 s=match kIS s (kHR s s.size) with | none=>none | some x=>if kAE ⟨s.extract (kHR s s.size) s.size,x⟩ && (kAQ ⟨s.extract (kHR s s.size) s.size,x⟩).toList==s.toList then some ⟨s.extract (kHR s s.size) s.size,x⟩ else none):=hJ (by rw [← readK_eq];rfl);generalize kC2 s=res at *;have HRb:=hJ (Bx.fresh w 54 [.string ⟨#[]⟩,.string ⟨#[]⟩,.slice none 0 0]);have HB0:=hJ ((Below.refl _ w).alloc (Nat.le_refl _) (.cells #[.string ⟨#[]⟩,.string ⟨#[]⟩,.slice none 0 0] 54));have hlw0:w.heap.size<(w.alloc (.cells #[.string ⟨#[]⟩,.string ⟨#[]⟩,.slice none 0 0] 54)).heap.size:=HRb.out.lt;have e1:(w.alloc (.cells #[.string ⟨#[]⟩,.string ⟨#[]⟩,.slice none 0 0] 54)).heap.size=w.heap.size+1:=by simp
 go_enter func60,ntmps60
 go_wp2_with fail
 generalize w.alloc (.cells #[.string ⟨#[]⟩,.string ⟨#[]⟩,.slice none 0 0] 54)=W at *
 go_loopw [4,5] (fun va vi W2=>∃ k:Nat,k≤s.size∧va= .int .i64 (kHR s k:Nat)∧vi= .int .i64 k∧W=W2) (fun _ vi _=>s.size - (intOf vi).toNat)
 case atStart=>exact ⟨0,Nat.zero_le _,rfl,rfl,rfl⟩
 case round =>
  obtain ⟨k,hk,rfl,rfl,rfl⟩:=hrel;by_cases hlt:k<s.size
  · have q1:decide ((k:Int)<(s.size:Int))=true:=decide_eq_true (by omega)
    have g0:=kBH s k hlt;have HN:=hJ (kH9 s k);have hle:=lastK_le s k;generalize bt s k=c at *;generalize kHR s k=m at *;cases hc:(c==93) with
    | true =>
      rw [hc,if_pos rfl] at HN
      go_wp2_with fail
      go_roundw
      case rel=>exact ⟨k+1,by omega,by rw [HN.out];go_num,by go_num,by trivial⟩
      case measure=>simp [intOf];omega
    | false =>
      rw [hc,if_neg Bool.false_ne_true] at HN
      go_wp2_with fail
      go_roundw
      case rel=>exact ⟨k+1,by omega,by rw [HN.out],by go_num,by trivial⟩
      case measure=>simp [intOf];omega
  · have hk2:k=s.size:=by omega
    subst hk2;have q1:decide ((s.size:Int)<(s.size:Int))=false:=decide_eq_false (by omega);have hle:=lastK_le s s.size;generalize kHR s s.size=m at *;have HOb:=hJ (Bx.fresh W 54 [.string (s.extract m s.size),.string ⟨#[]⟩,.slice none 0 0]);have HRs:=hJ (HRb.out.alloc (.cells #[.string (s.extract m s.size),.string ⟨#[]⟩,.slice none 0 0] 54));have HBl:=hJ (HB0.out.alloc (by omega) (.cells #[.string (s.extract m s.size),.string ⟨#[]⟩,.slice none 0 0] 54));have hyz:=kBM s (a:=m) (b:=s.size) (Nat.le_refl _);have hWz:(W.alloc (.cells #[.string (s.extract m s.size),.string ⟨#[]⟩,.slice none 0 0] 54)).heap.size=w.heap.size+1+1:=by simp [e1]
    rw [e1] at HOb;by_cases hm0:m=0
    · have q2:decide (0<m)=false:=decide_eq_false (by omega)
      have HR3:Hid (res=if kAE ⟨s.extract m s.size,kDE⟩ && (kAQ ⟨s.extract m s.size,kDE⟩).toList==s.toList then some ⟨s.extract m s.size,kDE⟩ else none):=hJ (by rw [HR.out];unfold kIS;rw [if_neg (by omega)];rfl);clear HRb HB0 HR hm0
      go_upto_region 13 with fail
      generalize W.alloc (.cells #[.string (s.extract m s.size),.string ⟨#[]⟩,.slice none 0 0] 54)=W2 at *
      obtain ⟨y,ry,va,vm,vc,t,HBX,HRd,hz,HR3⟩:∃ y ry va vm vc t,Hid (Bx W2 (w.heap.size+1) 54 [.string y,.string ry,.slice va vm vc])∧Hid (RTyp.rd (fun q=>w.heap.size+1<q) W2 [.string y,.string ry,.slice va vm vc] t)∧szT t∧Hid (res=if kAE t && (kAQ t).toList==s.toList then some t else none) :=
       ⟨s.extract m s.size,⟨#[]⟩,none,0,0,⟨s.extract m s.size,kDE⟩,HOb,hJ ⟨_,rfl,none,0,rfl,Sl.empty RLin _ _⟩,⟨by show (s.extract m s.size).size≤_;omega,Nat.zero_le _,fun d hd=>by cases hd⟩,HR3⟩
      clear HOb;have HCv:=hJ (kGV HRd.out hz);have v0:=HBX.out.cell 0 _ rfl;have v1:=HBX.out.cell 1 _ rfl;have v2:=HBX.out.cell 2 _ rfl;have hlw:=HBX.out.lt;cases hv:kAE t with
      | false =>
        have HF:Hid (res=none):=hJ (by rw [HR3.out,hv];rfl);have HVe:Hid (kB6 (kAE t)=1):=hJ (by rw [hv];rfl);rw [HVe.out] at HCv;clear HR3 HRd
        go_wp2_with fail
        refine (HCv.out).mono ?_;rintro e w1 ⟨rfl,hb⟩;replace HRs:=hJ (HRs.out.below hb HRs.out.lt);replace HBl:=hJ (HBl.out.trans (hb.mono HBl.out.size));have z0:=HRs.out.cell 0 _ rfl;have z1:=HRs.out.cell 1 _ rfl;have z2:=HRs.out.cell 2 _ rfl;have f0:=HRs.out.fz 0;have f1:=HRs.out.fz 1;have f2:=HRs.out.fz 2;have hl0:=HRs.out.lt;have HZz:=hJ (((HRs.out.set 0 (.string ⟨#[]⟩)).set 1 (.string ⟨#[]⟩)).set 2 (.slice none 0 0));have s0:=HZz.out.cell 0 _ rfl;have s1:=HZz.out.cell 1 _ rfl;have s2:=HZz.out.cell 2 _ rfl
        go_upto_region 15 with fail
        (try simp only []);repeat (first | go_values | go_skip | go_guarded | go_step | go_upon)
        refine bodyPost_ret (v:=.tuple #[.agg #[.string ⟨#[]⟩,.string ⟨#[]⟩,.slice none 0 0],.int .i64 6]) (by simp [results,results60,go_sem,s0,s1,s2,hl0]) rfl ?_;have HFr:Hid (∀ W,RTyp.rd (fun k=>w.heap.size≤k) W [.string ⟨#[]⟩,.string ⟨#[]⟩,.slice none 0 0] (optT res)):=hJ (fun W=>by rw [HF.out];exact ⟨_,rfl,none,0,rfl,Sl.empty RLin _ _⟩);exact ⟨⟨_,by rw [HF.out];rfl,HFr.out _⟩,((HBl.out.setCell (Nat.le_refl _) _).setCell (Nat.le_refl _) _).setCell (Nat.le_refl _) _⟩
      | true =>
        have HVe:Hid (kB6 (kAE t)=0):=hJ (by rw [hv];rfl);have HPe:Hid (kE7 t=kAQ t):=hJ (by unfold kE7;rw [if_pos hv]);rw [HVe.out,HPe.out] at HCv;rw [hv] at HR3;generalize kAQ t=o at *
        go_wp2_with fail
        refine (HCv.out).mono ?_;rintro e w2 ⟨rfl,hb⟩;have HB2:=hJ hb;replace v0:=(hb.cell (by show w.heap.size+1<_;omega)).trans v0;replace v1:=(hb.cell (by show w.heap.size+1<_;omega)).trans v1;replace v2:=(hb.cell (by show w.heap.size+1<_;omega)).trans v2;replace HRs:=hJ (HRs.out.below HB2.out HRs.out.lt);replace HBl:=hJ (HBl.out.trans (HB2.out.mono HBl.out.size));cases ho:(o.toList==s.toList) with
        | false =>
          have HF:Hid (res=none):=hJ (by rw [HR3.out,ho];rfl);have z0:=HRs.out.cell 0 _ rfl;have z1:=HRs.out.cell 1 _ rfl;have z2:=HRs.out.cell 2 _ rfl;have f0:=HRs.out.fz 0;have f1:=HRs.out.fz 1;have f2:=HRs.out.fz 2;have hl0:=HRs.out.lt;have HZz:=hJ (((HRs.out.set 0 (.string ⟨#[]⟩)).set 1 (.string ⟨#[]⟩)).set 2 (.slice none 0 0));have s0:=HZz.out.cell 0 _ rfl;have s1:=HZz.out.cell 1 _ rfl;have s2:=HZz.out.cell 2 _ rfl
          go_upto_region 15 with fail
          (try simp only []);repeat (first | go_values | go_skip | go_guarded | go_step | go_upon)
          refine bodyPost_ret (v:=.tuple #[.agg #[.string ⟨#[]⟩,.string ⟨#[]⟩,.slice none 0 0],.int .i64 6]) (by simp [results,results60,go_sem,s0,s1,s2,hl0]) rfl ?_;have HFr:Hid (∀ W,RTyp.rd (fun k=>w.heap.size≤k) W [.string ⟨#[]⟩,.string ⟨#[]⟩,.slice none 0 0] (optT res)):=hJ (fun W=>by rw [HF.out];exact ⟨_,rfl,none,0,rfl,Sl.empty RLin _ _⟩);exact ⟨⟨_,by rw [HF.out];rfl,HFr.out _⟩,((HBl.out.setCell (Nat.le_refl _) _).setCell (Nat.le_refl _) _).setCell (Nat.le_refl _) _⟩
        | true =>
          have HF:Hid (res=some t):=hJ (by rw [HR3.out,ho];rfl);have z0:=HRs.out.cell 0 _ rfl;have z1:=HRs.out.cell 1 _ rfl;have z2:=HRs.out.cell 2 _ rfl;have f0:=HRs.out.fz 0;have f1:=HRs.out.fz 1;have f2:=HRs.out.fz 2;have hl0:=HRs.out.lt
          go_upto_region 16 with fail
          (try simp only []);repeat (first | go_values | go_skip | go_guarded | go_step | go_upon)
          have HZz:=hJ (((HRs.out.set 0 (.string y)).set 1 (.string ry)).set 2 (.slice va vm vc));have s0:=HZz.out.cell 0 _ rfl;have s1:=HZz.out.cell 1 _ rfl;have s2:=HZz.out.cell 2 _ rfl;refine bodyPost_ret (v:=.tuple #[.agg #[.string y,.string ry,.slice va vm vc],.int .i64 0]) (by simp [results,results60,go_sem,s0,s1,s2,hl0]) rfl ?_;exact ⟨⟨_,by rw [HF.out];rfl,by rw [HF.out];exact RTyp.mono (RTyp.frame (RTyp.frame (RTyp.frame (RTyp.below HRd.out HB2.out) (fun q hq _=>kAB (a:=⟨w.heap.size,0,none⟩) (by show w.heap.size≠q;omega))) (fun q hq _=>kAB (a:=⟨w.heap.size,1,none⟩) (by show w.heap.size≠q;omega))) (fun q hq _=>kAB (a:=⟨w.heap.size,2,none⟩) (by show w.heap.size≠q;omega))) (fun q hq _=>by show w.heap.size≤q;omega)⟩,((HBl.out.setCell (Nat.le_refl _) _).setCell (Nat.le_refl _) _).setCell (Nat.le_refl _) _⟩
    · have q2:decide (0<m)=true:=decide_eq_true (by omega)
      have HF0:Hid (kIS s m=kF9 (s.extract 0 m)):=hJ (by unfold kIS;rw [if_pos (by omega)]);rw [HF0.out] at HR;have hxz:=kBM s (a:=0) (b:=m) hle;clear HRb HB0 HF0 hm0;cases hox:kF9 (s.extract 0 m) with
      | none =>
        have HC:=hJ (fun W=>ref11_Parse_none hox (by rw [hxz];omega) W);have HF:Hid (res=none):=hJ (by rw [HR.out,hox]);clear HR hox hxz
        go_wp2_with fail
        generalize W.alloc (.cells #[.string (s.extract m s.size),.string ⟨#[]⟩,.slice none 0 0] 54)=W2 at *;refine (HC.out _).mono ?_;rintro e w4 ⟨⟨ds,rfl,ty,rfl,ay,cy,rfl,hy⟩,hb4⟩;have hz4:=hb4.size;have HX:=hJ (Bx.fresh w4 52 [.string (kDE).row,.slice ay (kDE).dims.length cy]);have HY:=hJ (hy.below ((Below.refl _ _).alloc (Nat.le_refl _) (.cells #[.string (kDE).row,.slice ay (kDE).dims.length cy] 52)));have HB5:=hJ (hb4.alloc hz4 (.cells #[.string (kDE).row,.slice ay (kDE).dims.length cy] 52));replace HRs:=hJ (HRs.out.below HB5.out HRs.out.lt);replace HOb:=hJ (HOb.out.below HB5.out HOb.out.lt);replace HBl:=hJ (HBl.out.trans (HB5.out.mono HBl.out.size));have x0:=HX.out.cell 0 _ rfl;have x1:=HX.out.cell 1 _ rfl;clear hb4 hy HC;clear HY HOb HX HB5 x0 x1;have z0:=HRs.out.cell 0 _ rfl;have z1:=HRs.out.cell 1 _ rfl;have z2:=HRs.out.cell 2 _ rfl;have f0:=HRs.out.fz 0;have f1:=HRs.out.fz 1;have f2:=HRs.out.fz 2;have hl0:=HRs.out.lt;have HZz:=hJ (((HRs.out.set 0 (.string ⟨#[]⟩)).set 1 (.string ⟨#[]⟩)).set 2 (.slice none 0 0));have s0:=HZz.out.cell 0 _ rfl;have s1:=HZz.out.cell 1 _ rfl;have s2:=HZz.out.cell 2 _ rfl
        go_upto_region 11 with fail
        (try simp only []);repeat (first | go_values | go_skip | go_guarded | go_step | go_upon)
        refine bodyPost_ret (v:=.tuple #[.agg #[.string ⟨#[]⟩,.string ⟨#[]⟩,.slice none 0 0],.int .i64 6]) (by simp [results,results60,go_sem,s0,s1,s2,hl0]) rfl ?_;have HFr:Hid (∀ W,RTyp.rd (fun k=>w.heap.size≤k) W [.string ⟨#[]⟩,.string ⟨#[]⟩,.slice none 0 0] (optT res)):=hJ (fun W=>by rw [HF.out];exact ⟨_,rfl,none,0,rfl,Sl.empty RLin _ _⟩);exact ⟨⟨_,by rw [HF.out];rfl,HFr.out _⟩,((HBl.out.setCell (Nat.le_refl _) _).setCell (Nat.le_refl _) _).setCell (Nat.le_refl _) _⟩
      | some x =>
        have HC:=hJ (fun W=>ref11_Parse_some hox (by rw [hxz];omega) W);have hxs:=readH_sz hox;replace HR:Hid (res=if kAE ⟨s.extract m s.size,x⟩ && (kAQ ⟨s.extract m s.size,x⟩).toList==s.toList then some ⟨s.extract m s.size,x⟩ else none):=hJ (by rw [HR.out,hox]);clear hox hxz
        go_wp2_with fail
        generalize W.alloc (.cells #[.string (s.extract m s.size),.string ⟨#[]⟩,.slice none 0 0] 54)=W2 at *;refine (HC.out _).mono ?_;rintro e w4 ⟨⟨ds,rfl,ty,rfl,ay,cy,rfl,hy⟩,hb4⟩;have hz4:=hb4.size;have HX:=hJ (Bx.fresh w4 52 [.string (x).row,.slice ay (x).dims.length cy]);have HY:=hJ (hy.below ((Below.refl _ _).alloc (Nat.le_refl _) (.cells #[.string (x).row,.slice ay (x).dims.length cy] 52)));have HB5:=hJ (hb4.alloc hz4 (.cells #[.string (x).row,.slice ay (x).dims.length cy] 52));replace HRs:=hJ (HRs.out.below HB5.out HRs.out.lt);replace HOb:=hJ (HOb.out.below HB5.out HOb.out.lt);replace HBl:=hJ (HBl.out.trans (HB5.out.mono HBl.out.size));have x0:=HX.out.cell 0 _ rfl;have x1:=HX.out.cell 1 _ rfl;clear hb4 hy HC;have v1:=HOb.out.cell 1 _ rfl;have v2:=HOb.out.cell 2 _ rfl;have f1:=HOb.out.fz 1;have f2:=HOb.out.fz 2;have hlo:=HOb.out.lt
        go_upto_region 13 with fail
        have hne:w.heap.size+1≠w.heap.size:=by omega
        replace HOb:=hJ ((HOb.out.set 1 (.string x.row)).set 2 (.slice ay x.dims.length cy));replace HRs:=hJ ((HRs.out.other (a:=⟨w.heap.size+1,1,none⟩) (u:=.string x.row) hne).other (a:=⟨w.heap.size+1,2,none⟩) (u:=.slice ay x.dims.length cy) hne);replace HBl:=hJ ((HBl.out.setCell (show w.heap.size≤(⟨w.heap.size+1,1,none⟩:Addr).block from Nat.le_succ _) (.string x.row)).setCell (show w.heap.size≤(⟨w.heap.size+1,2,none⟩:Addr).block from Nat.le_succ _) (.slice ay x.dims.length cy));replace HY:=hJ ((HY.out.frame (w':=World.setCell _ ⟨w.heap.size+1,1,none⟩ (.string x.row)) (fun k hk _=>kAB (by show w.heap.size+1≠k;omega))).frame (w':=World.setCell _ ⟨w.heap.size+1,2,none⟩ (.slice ay x.dims.length cy)) (fun k hk _=>kAB (by show w.heap.size+1≠k;omega)));clear x0 x1 v1 v2 f1 f2 HX HB5 hlo;generalize ((w4.alloc (.cells #[.string x.row,.slice ay x.dims.length cy] 52)).setCell ⟨w.heap.size+1,1,none⟩ (.string x.row)).setCell ⟨w.heap.size+1,2,none⟩ (.slice ay x.dims.length cy)=W3 at *
        obtain ⟨y,ry,va,vm,vc,t,HBX,HRd,hz,HR3⟩:∃ y ry va vm vc t,Hid (Bx W3 (w.heap.size+1) 54 [.string y,.string ry,.slice va vm vc])∧Hid (RTyp.rd (fun q=>w.heap.size+1<q) W3 [.string y,.string ry,.slice va vm vc] t)∧szT t∧Hid (res=if kAE t && (kAQ t).toList==s.toList then some t else none) :=
         ⟨s.extract m s.size,x.row,ay,x.dims.length,cy,⟨s.extract m s.size,x⟩,HOb,hJ ⟨_,rfl,ay,cy,rfl,HY.out.mono (fun q hq _=>by omega)⟩,⟨by show (s.extract m s.size).size≤_;omega,hxs⟩,HR⟩
        clear HOb HR HY;have HCv:=hJ (kGV HRd.out hz);have v0:=HBX.out.cell 0 _ rfl;have v1:=HBX.out.cell 1 _ rfl;have v2:=HBX.out.cell 2 _ rfl;have hlw:=HBX.out.lt;cases hv:kAE t with
        | false =>
          have HF:Hid (res=none):=hJ (by rw [HR3.out,hv];rfl);have HVe:Hid (kB6 (kAE t)=1):=hJ (by rw [hv];rfl);rw [HVe.out] at HCv;clear HR3 HRd
          go_wp2_with fail
          refine (HCv.out).mono ?_;rintro e w1 ⟨rfl,hb⟩;replace HRs:=hJ (HRs.out.below hb HRs.out.lt);replace HBl:=hJ (HBl.out.trans (hb.mono HBl.out.size));have z0:=HRs.out.cell 0 _ rfl;have z1:=HRs.out.cell 1 _ rfl;have z2:=HRs.out.cell 2 _ rfl;have f0:=HRs.out.fz 0;have f1:=HRs.out.fz 1;have f2:=HRs.out.fz 2;have hl0:=HRs.out.lt;have HZz:=hJ (((HRs.out.set 0 (.string ⟨#[]⟩)).set 1 (.string ⟨#[]⟩)).set 2 (.slice none 0 0));have s0:=HZz.out.cell 0 _ rfl;have s1:=HZz.out.cell 1 _ rfl;have s2:=HZz.out.cell 2 _ rfl
          go_upto_region 15 with fail
          (try simp only []);repeat (first | go_values | go_skip | go_guarded | go_step | go_upon)
          refine bodyPost_ret (v:=.tuple #[.agg #[.string ⟨#[]⟩,.string ⟨#[]⟩,.slice none 0 0],.int .i64 6]) (by simp [results,results60,go_sem,s0,s1,s2,hl0]) rfl ?_;have HFr:Hid (∀ W,RTyp.rd (fun k=>w.heap.size≤k) W [.string ⟨#[]⟩,.string ⟨#[]⟩,.slice none 0 0] (optT res)):=hJ (fun W=>by rw [HF.out];exact ⟨_,rfl,none,0,rfl,Sl.empty RLin _ _⟩);exact ⟨⟨_,by rw [HF.out];rfl,HFr.out _⟩,((HBl.out.setCell (Nat.le_refl _) _).setCell (Nat.le_refl _) _).setCell (Nat.le_refl _) _⟩
        | true =>
          have HVe:Hid (kB6 (kAE t)=0):=hJ (by rw [hv];rfl);have HPe:Hid (kE7 t=kAQ t):=hJ (by unfold kE7;rw [if_pos hv]);rw [HVe.out,HPe.out] at HCv;rw [hv] at HR3;generalize kAQ t=o at *
          go_wp2_with fail
          refine (HCv.out).mono ?_;rintro e w2 ⟨rfl,hb⟩;have HB2:=hJ hb;replace v0:=(hb.cell (by show w.heap.size+1<_;omega)).trans v0;replace v1:=(hb.cell (by show w.heap.size+1<_;omega)).trans v1;replace v2:=(hb.cell (by show w.heap.size+1<_;omega)).trans v2;replace HRs:=hJ (HRs.out.below HB2.out HRs.out.lt);replace HBl:=hJ (HBl.out.trans (HB2.out.mono HBl.out.size));cases ho:(o.toList==s.toList) with
          | false =>
            have HF:Hid (res=none):=hJ (by rw [HR3.out,ho];rfl);have z0:=HRs.out.cell 0 _ rfl;have z1:=HRs.out.cell 1 _ rfl;have z2:=HRs.out.cell 2 _ rfl;have f0:=HRs.out.fz 0;have f1:=HRs.out.fz 1;have f2:=HRs.out.fz 2;have hl0:=HRs.out.lt;have HZz:=hJ (((HRs.out.set 0 (.string ⟨#[]⟩)).set 1 (.string ⟨#[]⟩)).set 2 (.slice none 0 0));have s0:=HZz.out.cell 0 _ rfl;have s1:=HZz.out.cell 1 _ rfl;have s2:=HZz.out.cell 2 _ rfl
            go_upto_region 15 with fail
            (try simp only []);repeat (first | go_values | go_skip | go_guarded | go_step | go_upon)
            refine bodyPost_ret (v:=.tuple #[.agg #[.string ⟨#[]⟩,.string ⟨#[]⟩,.slice none 0 0],.int .i64 6]) (by simp [results,results60,go_sem,s0,s1,s2,hl0]) rfl ?_;have HFr:Hid (∀ W,RTyp.rd (fun k=>w.heap.size≤k) W [.string ⟨#[]⟩,.string ⟨#[]⟩,.slice none 0 0] (optT res)):=hJ (fun W=>by rw [HF.out];exact ⟨_,rfl,none,0,rfl,Sl.empty RLin _ _⟩);exact ⟨⟨_,by rw [HF.out];rfl,HFr.out _⟩,((HBl.out.setCell (Nat.le_refl _) _).setCell (Nat.le_refl _) _).setCell (Nat.le_refl _) _⟩
          | true =>
            have HF:Hid (res=some t):=hJ (by rw [HR3.out,ho];rfl);have z0:=HRs.out.cell 0 _ rfl;have z1:=HRs.out.cell 1 _ rfl;have z2:=HRs.out.cell 2 _ rfl;have f0:=HRs.out.fz 0;have f1:=HRs.out.fz 1;have f2:=HRs.out.fz 2;have hl0:=HRs.out.lt
            go_upto_region 16 with fail
            (try simp only []);repeat (first | go_values | go_skip | go_guarded | go_step | go_upon)
            have HZz:=hJ (((HRs.out.set 0 (.string y)).set 1 (.string ry)).set 2 (.slice va vm vc));have s0:=HZz.out.cell 0 _ rfl;have s1:=HZz.out.cell 1 _ rfl;have s2:=HZz.out.cell 2 _ rfl;refine bodyPost_ret (v:=.tuple #[.agg #[.string y,.string ry,.slice va vm vc],.int .i64 0]) (by simp [results,results60,go_sem,s0,s1,s2,hl0]) rfl ?_;exact ⟨⟨_,by rw [HF.out];rfl,by rw [HF.out];exact RTyp.mono (RTyp.frame (RTyp.frame (RTyp.frame (RTyp.below HRd.out HB2.out) (fun q hq _=>kAB (a:=⟨w.heap.size,0,none⟩) (by show w.heap.size≠q;omega))) (fun q hq _=>kAB (a:=⟨w.heap.size,1,none⟩) (by show w.heap.size≠q;omega))) (fun q hq _=>kAB (a:=⟨w.heap.size,2,none⟩) (by show w.heap.size≠q;omega))) (fun q hq _=>by show w.heap.size≤q;omega)⟩,((HBl.out.setCell (Nat.le_refl _) _).setCell (Nat.le_refl _) _).setCell (Nat.le_refl _) _⟩
theorem kG9 {s:Str} {t:Typ} (h:kC2 s=some t) (hs:s.size≤10000) (w:World) :
 Calls Tryz.prog 60 #[.string s] w fun e w'=>(∃ ds,e= .returned (.tuple #[.agg ds.toArray,.int .i64 0])∧RTyp.rd (fun k=>w.heap.size≤k) w' ds t)∧Below w.heap.size w w':=by
 have:=ref12_Parse s hs w;rw [h] at this;exact this
theorem kHA {s:Str} (h:kC2 s=none) (hs:s.size≤10000) (w:World) :
 Calls Tryz.prog 60 #[.string s] w fun e w'=>(∃ ds,e= .returned (.tuple #[.agg ds.toArray,.int .i64 6])∧RTyp.rd (fun k=>w.heap.size≤k) w' ds kBL)∧Below w.heap.size w w':=by
 have:=ref12_Parse s hs w;rw [h] at this;exact this
theorem kKG (s p:Str):(cutL s p).size≤s.size:=by
 unfold cutL
 split
 · rw [ByteArray.size_extract];omega
 · exact Nat.le_refl _
theorem kKD (s p:Str):(cutR s p).size≤s.size∧(cutB s p=true→(cutR s p).size+p.size≤s.size)∧(cutB s p=false→(cutR s p).size=0):=by
 unfold cutR;cases h:cutB s p with
 | true =>
   unfold cutB at h;have:=of_decide_eq_true h;rw [if_pos rfl,ByteArray.size_extract];exact ⟨by omega,(fun _=>by omega),(fun q=>by cases q)⟩
 | false=>exact ⟨Nat.zero_le _,(fun q=>by cases q),(fun _=>rfl)⟩
theorem goSR_step (g:Nat) (r:Str) (acc:List Typ) (hr:r.size≠0):goSR (g+1) r acc=match kC2 (cutL r comS) with | none=>none | some t=>if cutB r comS && (cutR r comS).toList.isEmpty then none else goSR g (cutR r comS) (acc++[t]):=by
 show (if r.size=0 then _ else _)=_
 rw [if_neg hr];first | done | rfl
theorem goSR_end (g:Nat) (r:Str) (acc:List Typ) (hr:r.size=0):goSR (g+1) r acc=some acc:=by
 show (if r.size=0 then _ else _)=_
 rw [if_pos hr]
theorem kF6 (s:Str) (hs:s.size≤10000) (w:World) :
 Calls Tryz.prog 30 #[.string s] w fun e w'=>(∃ ds,e= .returned (.tuple #[.agg ds.toArray,.int .i64 (optE (kDY s))])∧RSch.rd (fun k=>w.heap.size≤k) w' ds (optS (kDY s)))∧Below w.heap.size w w':=by
 have HR:Hid (kDY s=if cutB s arrS && (decide (0<(cutL s arrS).size) && bt (cutL s arrS) 0==40) then (match goSR (s.size+1) ((cutL s arrS).extract 1 (cutL s arrS).size) [] with | none=>none | some ps=>match kC2 (cutL (cutR s arrS) whrS) with | none=>none | some t=>match goWR (s.size+2) (cutR (cutR s arrS) whrS) (cutB (cutR s arrS) whrS) [] with | none=>none | some ls=>kII s ⟨ps,t,ls⟩) else none):=hJ (by rw [← readSR_eq];rfl);have HC1:=hJ (fun W=>kJT s arrS (by omega) (by decide) (by decide) W);have h1z:=kKG s arrS;have h2z:=(kKD s arrS).1;have HC3:=hJ (fun W=>kJT (cutR s arrS) whrS (by omega) (by decide) (by decide) W);have h3z:=kKG (cutR s arrS) whrS;obtain ⟨h4z,h5z,_⟩:=kKD (cutR s arrS) whrS;have hrz:(cutL (cutR s arrS) whrS).size≤10000:=by omega
 have hwz:(cutR (cutR s arrS) whrS).size≤s.size:=by omega
 clear h3z h4z h5z;generalize kDY s=res at *;have HRb:=hJ (Bx.fresh w 57 [.slice none 0 0,.string ⟨#[]⟩,.string ⟨#[]⟩,.slice none 0 0,.slice none 0 0]);have e1:(w.alloc (.cells #[.slice none 0 0,.string ⟨#[]⟩,.string ⟨#[]⟩,.slice none 0 0,.slice none 0 0] 57)).heap.size=w.heap.size+1:=by simp
 have HRs:=hJ (HRb.out.alloc (.cells #[.slice none 0 0,.string ⟨#[]⟩,.string ⟨#[]⟩,.slice none 0 0,.slice none 0 0] 57));have HBX:=hJ (Bx.fresh (w.alloc (.cells #[.slice none 0 0,.string ⟨#[]⟩,.string ⟨#[]⟩,.slice none 0 0,.slice none 0 0] 57)) 57 [.slice none 0 0,.string ⟨#[]⟩,.string ⟨#[]⟩,.slice none 0 0,.slice none 0 0]);have HBl:=hJ (((Below.refl _ w).alloc (Nat.le_refl _) (.cells #[.slice none 0 0,.string ⟨#[]⟩,.string ⟨#[]⟩,.slice none 0 0,.slice none 0 0] 57)).alloc (by rw [e1];omega) (.cells #[.slice none 0 0,.string ⟨#[]⟩,.string ⟨#[]⟩,.slice none 0 0,.slice none 0 0] 57));rw [e1] at HBX;clear HRb;go_enter func30,ntmps30
 go_wp2_with fail
 obtain ⟨g,hg⟩:∃ g,g=w.heap.size+1:=⟨_,rfl⟩
 have hgw:w.heap.size<g:=by omega
 rw [← hg] at HBX
 try rw [e1]
 try rw [← hg]
 clear e1 hg;generalize (w.alloc (.cells #[.slice none 0 0,.string ⟨#[]⟩,.string ⟨#[]⟩,.slice none 0 0,.slice none 0 0] 57)).alloc (.cells #[.slice none 0 0,.string ⟨#[]⟩,.string ⟨#[]⟩,.slice none 0 0,.slice none 0 0] 57)=W0 at *;refine (HC1.out _).mono ?_;rintro e W ⟨rfl,hb1⟩;replace HBX:=hJ (HBX.out.below hb1 HBX.out.lt);replace HRs:=hJ (HRs.out.below hb1 HRs.out.lt);replace HBl:=hJ (HBl.out.trans (hb1.mono HBl.out.size));clear HC1 hb1;have hgW:=HBX.out.lt;by_cases hok:(cutB s arrS && (decide (0<(cutL s arrS).size) && bt (cutL s arrS) 0==40))=true
 · replace HR:Hid (res=match goSR (s.size+1) ((cutL s arrS).extract 1 (cutL s arrS).size) [] with | none=>none | some ps=>match kC2 (cutL (cutR s arrS) whrS) with | none=>none | some t=>match goWR (s.size+2) (cutR (cutR s arrS) whrS) (cutB (cutR s arrS) whrS) [] with | none=>none | some ls=>kII s ⟨ps,t,ls⟩):=hJ (by rw [HR.out,if_pos hok])
   rw [Bool.and_eq_true,Bool.and_eq_true] at hok;obtain ⟨ok1,ok2,ok3⟩:=hok;have ok2:=of_decide_eq_true ok2;rw [ok1];generalize cutL (cutR s arrS) whrS=rt at *;generalize cutB (cutR s arrS) whrS=sm at *;generalize cutR (cutR s arrS) whrS=wh at *;generalize cutR s arrS=rs at *;generalize cutL s arrS=hd at *;have hne:hd.toList.isEmpty=false:=kDD ok2;have g0:=kBH hd 0 ok2;have hh1:=kBM hd (a:=1) (b:=hd.size) (Nat.le_refl _);have n3:(bt hd 0 != 40)=false:=by unfold bne;rw [ok3];rfl
   obtain ⟨tot,hto⟩:∃ tot,tot=goSR (s.size+1) (hd.extract 1 hd.size) []:=⟨_,rfl⟩
   rw [← hto] at HR;have HTo:=hJ hto.symm;clear hto ok1;generalize bt hd 0=c0 at *
   go_upto_block 0 with fail
   go_cut [8] (fun v8 W2=>∃ (ps:List Typ) (va:Option Addr) (vm vc B:Nat),g<B∧B≤W2.heap.size∧ps.length≤s.size∧Hid (tot=some ps)∧Hid (∀ t ∈ ps,kAE t=true)∧Hid (Bx W2 g 57 [.slice va vm vc,.string ⟨#[]⟩,.string ⟨#[]⟩,.slice none 0 0,.slice none 0 0])∧Hid (Own RTyp 54 (fun q=>B≤q) W2 B (.slice va vm vc) ps)∧Hid (Bx W2 w.heap.size 57 [.slice none 0 0,.string ⟨#[]⟩,.string ⟨#[]⟩,.slice none 0 0,.slice none 0 0])∧Hid (Below w.heap.size w W2))
   case first =>
    go_wp2_with fail
    have HR2:Hid (tot=none→res=none):=hJ (fun h=>by rw [HR.out,h])
    go_loopg [8] (s.size+1) (fun gk v8 wr=>∃ (r:Str) (ps:List Typ) (va:Option Addr) (vm vc:Nat),v8= .string r∧r.size<gk∧ps.length+r.size≤s.size∧W.heap.size≤wr.heap.size∧Hid (goSR gk r ps=tot)∧Hid (∀ t ∈ ps,kAE t=true)∧Hid (Bx wr g 57 [.slice va vm vc,.string ⟨#[]⟩,.string ⟨#[]⟩,.slice none 0 0,.slice none 0 0])∧Hid (Own RTyp 54 (fun q=>W.heap.size≤q) wr W.heap.size (.slice va vm vc) ps)∧Hid (Bx wr w.heap.size 57 [.slice none 0 0,.string ⟨#[]⟩,.string ⟨#[]⟩,.slice none 0 0,.slice none 0 0])∧Hid (Below w.heap.size w wr))
    case atStart=>exact ⟨_,[],none,0,0,rfl,by omega,by show 0+_≤_;omega,Nat.le_refl _,HTo,hJ (fun t ht=>by cases ht),HBX,hJ (Own.nil _ _ _ _ _),HRs,HBl⟩
    case round =>
     clear HBX HRs HBl HTo;obtain ⟨r,ps,va,vm,vc,rfl,hrg,hpl,hwz2,HRun,HV,HBX,HOwn,HRs,HBl⟩:=hrel;obtain ⟨gk,rfl⟩:∃ g,gk=g+1:=⟨gk - 1,by omega⟩
     cases hre:r.toList.isEmpty with
     | true =>
       have hr0:r.size=0:=by rw [kDV hre];rfl
       have HTot:Hid (tot=some ps):=hJ (by rw [← HRun.out,goSR_end _ _ _ hr0])
       go_wp2_with fail
       go_meet
       exact ⟨ps,va,vm,vc,W.heap.size,hgW,hwz2,by omega,HTot,HV,HBX,HOwn,HRs,HBl⟩
     | false =>
       have hr0:=kDC hre;replace HRun:Hid ((match kC2 (cutL r comS) with | none=>none | some t=>if cutB r comS && (cutR r comS).toList.isEmpty then none else goSR gk (cutR r comS) (ps++[t]))=tot):=hJ (by rw [← HRun.out,goSR_step _ _ _ (by omega)]);have HCc:=hJ (kJT r comS (by omega) (by decide) (by decide) wr);have hlz:=kKG r comS;obtain ⟨q1z,q2z,q3z⟩:=kKD r comS;have hc2:comS.size=2:=rfl
       go_wp2_with fail
       refine HCc.out.mono ?_;rintro e wr2 ⟨rfl,hbc⟩;replace HBX:=hJ (HBX.out.below hbc HBX.out.lt);replace HOwn:=hJ (HOwn.out.below hbc);replace HRs:=hJ (HRs.out.below hbc HRs.out.lt);replace HBl:=hJ (HBl.out.trans (hbc.mono HBl.out.size));have hzc:=hbc.size;clear HCc hbc;generalize cutL r comS=x at *;obtain ⟨r2,hr2⟩:∃ r2,r2=cutR r comS:=⟨_,rfl⟩
       obtain ⟨b2,hb2⟩:∃ b2,b2=cutB r comS:=⟨_,rfl⟩
       have HSh:Hid (r2.size<r.size):=hJ (by
        rw [hr2];cases hq:cutB r comS with
        | true=>have:=q2z hq;omega
        | false=>have:=q3z hq;omega)
       rw [← hr2,← hb2] at HRun ⊢;clear hr2 hb2 q1z q2z q3z;cases hrx:kC2 x with
       | none =>
         have HC:=hJ (kHA hrx (by omega) wr2);have HF:Hid (res=none):=hJ (HR2.out (by rw [← HRun.out,hrx]));clear HRun hrx
         go_wp2_with fail
         refine HC.out.mono ?_;rintro e w4 ⟨⟨ds,rfl,ty,rfl,⟨ay,cy,rfl,hy⟩⟩,hb4⟩;have hz4:=hb4.size;have HT:=hJ (Bx.fresh w4 54 [.string (kBL).elem,.string (kBL).shape.row,.slice ay (kBL).shape.dims.length cy]);have t0:=HT.out.cell 0 _ rfl;have t1:=HT.out.cell 1 _ rfl;have t2:=HT.out.cell 2 _ rfl;have HY:=hJ (hy.below ((Below.refl _ _).alloc (Nat.le_refl _) (.cells #[.string (kBL).elem,.string (kBL).shape.row,.slice ay (kBL).shape.dims.length cy] 54)));have HB5:=hJ (hb4.alloc hz4 (.cells #[.string (kBL).elem,.string (kBL).shape.row,.slice ay (kBL).shape.dims.length cy] 54));have HOld:=HOwn;replace HBX:=hJ (HBX.out.below HB5.out HBX.out.lt);replace HOwn:=hJ (HOwn.out.below HB5.out);replace HRs:=hJ (HRs.out.below HB5.out HRs.out.lt);replace HBl:=hJ (HBl.out.trans (HB5.out.mono HBl.out.size));clear hb4 hy HC;have z0:=HRs.out.cell 0 _ rfl;have z1:=HRs.out.cell 1 _ rfl;have z2:=HRs.out.cell 2 _ rfl;have z3:=HRs.out.cell 3 _ rfl;have z4:=HRs.out.cell 4 _ rfl;have f0:=HRs.out.fz 0;have f1:=HRs.out.fz 1;have f2:=HRs.out.fz 2;have f3:=HRs.out.fz 3;have f4:=HRs.out.fz 4;have hl0:=HRs.out.lt;have HZz:=hJ (((((HRs.out.set 0 (.slice none 0 0)).set 1 (.string ⟨#[]⟩)).set 2 (.string ⟨#[]⟩)).set 3 (.slice none 0 0)).set 4 (.slice none 0 0));have s0:=HZz.out.cell 0 _ rfl;have s1:=HZz.out.cell 1 _ rfl;have s2:=HZz.out.cell 2 _ rfl;have s3:=HZz.out.cell 3 _ rfl;have s4:=HZz.out.cell 4 _ rfl
         go_upto_region 10 with fail
         (try simp only []);repeat (first | go_values | go_skip | go_guarded | go_step | go_upon)
         refine bodyPost_ret (v:=.tuple #[.agg #[.slice none 0 0,.string ⟨#[]⟩,.string ⟨#[]⟩,.slice none 0 0,.slice none 0 0],.int .i64 6]) (by simp [results,results30,go_sem,s0,s1,s2,s3,s4,hl0]) rfl ?_;have HFr:Hid (∀ W,RSch.rd (fun k=>w.heap.size≤k) W [.slice none 0 0,.string ⟨#[]⟩,.string ⟨#[]⟩,.slice none 0 0,.slice none 0 0] (optS res)):=hJ (fun W=>by rw [HF.out];exact ⟨_,_,_,rfl,⟨none,0,rfl,Sl.empty RTyp _ _⟩,⟨none,0,rfl,Sl.empty RLin _ _⟩,⟨none,0,rfl,Sl.empty RLin _ _⟩⟩);exact ⟨⟨_,by rw [HF.out];rfl,HFr.out _⟩,((((HBl.out.setCell (Nat.le_refl _) _).setCell (Nat.le_refl _) _).setCell (Nat.le_refl _) _).setCell (Nat.le_refl _) _).setCell (Nat.le_refl _) _⟩
       | some t =>
         have HC:=hJ (kG9 hrx (by omega) wr2);have hvt:=(kD7 hrx).1;replace HRun:Hid ((if b2 && r2.toList.isEmpty then none else goSR gk r2 (ps++[t]))=tot):=hJ (by rw [← HRun.out,hrx]);clear hrx
         go_wp2_with fail
         refine HC.out.mono ?_;rintro e w4 ⟨⟨ds,rfl,ty,rfl,⟨ay,cy,rfl,hy⟩⟩,hb4⟩;have hz4:=hb4.size;have HT:=hJ (Bx.fresh w4 54 [.string (t).elem,.string (t).shape.row,.slice ay (t).shape.dims.length cy]);have t0:=HT.out.cell 0 _ rfl;have t1:=HT.out.cell 1 _ rfl;have t2:=HT.out.cell 2 _ rfl;have HY:=hJ (hy.below ((Below.refl _ _).alloc (Nat.le_refl _) (.cells #[.string (t).elem,.string (t).shape.row,.slice ay (t).shape.dims.length cy] 54)));have HB5:=hJ (hb4.alloc hz4 (.cells #[.string (t).elem,.string (t).shape.row,.slice ay (t).shape.dims.length cy] 54));have HOld:=HOwn;replace HBX:=hJ (HBX.out.below HB5.out HBX.out.lt);replace HOwn:=hJ (HOwn.out.below HB5.out);replace HRs:=hJ (HRs.out.below HB5.out HRs.out.lt);replace HBl:=hJ (HBl.out.trans (HB5.out.mono HBl.out.size));clear hb4 hy HC;by_cases hbe:(b2 && r2.toList.isEmpty)=true
         · have HF:Hid (res=none):=hJ (HR2.out (by rw [← HRun.out,if_pos hbe]))
           rw [Bool.and_eq_true] at hbe;obtain ⟨hbe1,hbe2⟩:=hbe;subst hbe1;clear HRun;have z0:=HRs.out.cell 0 _ rfl;have z1:=HRs.out.cell 1 _ rfl;have z2:=HRs.out.cell 2 _ rfl;have z3:=HRs.out.cell 3 _ rfl;have z4:=HRs.out.cell 4 _ rfl;have f0:=HRs.out.fz 0;have f1:=HRs.out.fz 1;have f2:=HRs.out.fz 2;have f3:=HRs.out.fz 3;have f4:=HRs.out.fz 4;have hl0:=HRs.out.lt;have HZz:=hJ (((((HRs.out.set 0 (.slice none 0 0)).set 1 (.string ⟨#[]⟩)).set 2 (.string ⟨#[]⟩)).set 3 (.slice none 0 0)).set 4 (.slice none 0 0));have s0:=HZz.out.cell 0 _ rfl;have s1:=HZz.out.cell 1 _ rfl;have s2:=HZz.out.cell 2 _ rfl;have s3:=HZz.out.cell 3 _ rfl;have s4:=HZz.out.cell 4 _ rfl
           go_upto_region 10 with fail
           (try simp only []);repeat (first | go_values | go_skip | go_guarded | go_step | go_upon)
           refine bodyPost_ret (v:=.tuple #[.agg #[.slice none 0 0,.string ⟨#[]⟩,.string ⟨#[]⟩,.slice none 0 0,.slice none 0 0],.int .i64 6]) (by simp [results,results30,go_sem,s0,s1,s2,s3,s4,hl0]) rfl ?_;have HFr:Hid (∀ W,RSch.rd (fun k=>w.heap.size≤k) W [.slice none 0 0,.string ⟨#[]⟩,.string ⟨#[]⟩,.slice none 0 0,.slice none 0 0] (optS res)):=hJ (fun W=>by rw [HF.out];exact ⟨_,_,_,rfl,⟨none,0,rfl,Sl.empty RTyp _ _⟩,⟨none,0,rfl,Sl.empty RLin _ _⟩,⟨none,0,rfl,Sl.empty RLin _ _⟩⟩);exact ⟨⟨_,by rw [HF.out];rfl,HFr.out _⟩,((((HBl.out.setCell (Nat.le_refl _) _).setCell (Nat.le_refl _) _).setCell (Nat.le_refl _) _).setCell (Nat.le_refl _) _).setCell (Nat.le_refl _) _⟩
         · have HNx:Hid (goSR gk r2 (ps++[t])=tot):=hJ (by rw [← HRun.out,if_neg hbe])
           have v0:=HBX.out.cell 0 _ rfl;have fv0:=HBX.out.fz 0;clear HRun;cases b2 with
           | false =>
             clear hbe
             go_wp2_with (at_builtin;refine kA4 kG0 rfl _ _ rfl W.heap.size _ _ rfl (HOwn.out.alloc _) _ t [.string t.elem,.string t.shape.row,.slice ay t.shape.dims.length cy] rfl ⟨_,rfl,ay,cy,rfl,(HY.out.below ((Below.refl _ _).alloc (Nat.le_refl _) _)).mono (fun q hq _=>⟨by omega,fun e=>by have:=(HOld.out.block e).2;omega⟩)⟩ (kA6 54 (by (simp only [kAK,kAI,Array.getElem?_push,Array.size_push];simp))) (by omega) (by unfold maxLen;omega) (by simp;omega) ?_;intro v9 w9 hown9 hb9 hk9;obtain ⟨a9,m9,c9,rfl⟩:=hown9.shape;have HX9:=hJ ((HBX.out.alloc _).kp hk9 (HOwn.out.ne (by omega)));have HR9:=hJ ((HRs.out.alloc _).kp hk9 (HOwn.out.ne (by omega)));have z9:=HX9.out.cell 0 _ rfl;have f9:=HX9.out.fz 0;have hz9:=hb9.size)
             go_roundg gk
             case measure=>have:=HSh.out;omega
             case rel=>exact ⟨r2,ps++[t],a9,m9,c9,rfl,by have:=HSh.out;omega,by have:=HSh.out;rw [List.length_append];show ps.length+1+_≤_;omega,by have:=hz9;simp at this ⊢;omega,HNx,hJ (fun d hd=>(List.mem_append.mp hd).elim (HV.out d) (fun q=>by rw [List.mem_singleton.mp q];exact hvt)),hJ (HX9.out.set 0 _),hJ (hown9.set _ (fun q hq=>by show q≠g;omega) (by show g<_;omega)),hJ (HR9.out.other (by show g≠_;omega)),hJ (((HBl.out.alloc HBl.out.size _).trans (hb9.mono (by omega))).setCell (by show _≤g;omega) _)⟩
           | true =>
             have hbe:r2.toList.isEmpty=false:=by simpa using hbe
             go_wp2_with (at_builtin;refine kA4 kG0 rfl _ _ rfl W.heap.size _ _ rfl (HOwn.out.alloc _) _ t [.string t.elem,.string t.shape.row,.slice ay t.shape.dims.length cy] rfl ⟨_,rfl,ay,cy,rfl,(HY.out.below ((Below.refl _ _).alloc (Nat.le_refl _) _)).mono (fun q hq _=>⟨by omega,fun e=>by have:=(HOld.out.block e).2;omega⟩)⟩ (kA6 54 (by (simp only [kAK,kAI,Array.getElem?_push,Array.size_push];simp))) (by omega) (by unfold maxLen;omega) (by simp;omega) ?_;intro v9 w9 hown9 hb9 hk9;obtain ⟨a9,m9,c9,rfl⟩:=hown9.shape;have HX9:=hJ ((HBX.out.alloc _).kp hk9 (HOwn.out.ne (by omega)));have HR9:=hJ ((HRs.out.alloc _).kp hk9 (HOwn.out.ne (by omega)));have z9:=HX9.out.cell 0 _ rfl;have f9:=HX9.out.fz 0;have hz9:=hb9.size)
             go_roundg gk
             case measure=>have:=HSh.out;omega
             case rel=>exact ⟨r2,ps++[t],a9,m9,c9,rfl,by have:=HSh.out;omega,by have:=HSh.out;rw [List.length_append];show ps.length+1+_≤_;omega,by have:=hz9;simp at this ⊢;omega,HNx,hJ (fun d hd=>(List.mem_append.mp hd).elim (HV.out d) (fun q=>by rw [List.mem_singleton.mp q];exact hvt)),hJ (HX9.out.set 0 _),hJ (hown9.set _ (fun q hq=>by show q≠g;omega) (by show g<_;omega)),hJ (HR9.out.other (by show g≠_;omega)),hJ (((HBl.out.alloc HBl.out.size _).trans (hb9.mono (by omega))).setCell (by show _≤g;omega) _)⟩
   case rest =>
    obtain ⟨ps,pa,vm,pc,B,hgB,hBW,hpl,HPs,HVp,HBX,HOwn,HRs,HBl⟩:=hcut;generalize hwc:wc=W2 at *;clear hwc;replace HR:Hid (res=match kC2 rt with | none=>none | some t=>match goWR (s.size+2) wh sm [] with | none=>none | some ls=>kII s ⟨ps,t,ls⟩):=hJ (by rw [HR.out,HPs.out]);obtain ⟨a9,c9,e9,hsl⟩:=HOwn.out.sl;rw [Value.slice.injEq] at e9;obtain ⟨rfl,rfl,rfl⟩:=e9;have HSp:=hJ (hsl.mono (S':=fun q=>g<q) (fun q hq _=>by rcases hq with q | q <;> omega));clear HOwn hsl HPs HTo
    go_wp2_with fail
    refine (HC3.out _).mono ?_;rintro e W3 ⟨rfl,hb3⟩;replace HBX:=hJ (HBX.out.below hb3 HBX.out.lt);replace HRs:=hJ (HRs.out.below hb3 HRs.out.lt);replace HBl:=hJ (HBl.out.trans (hb3.mono HBl.out.size));replace HSp:=hJ (HSp.out.below hb3);have hg3:=HBX.out.lt;have hz3:=HBl.out.size;clear HC3 hb3;cases hrt:kC2 rt with
    | none =>
      have HC:=hJ (fun W=>kHA hrt hrz W);have HF:Hid (res=none):=hJ (by rw [HR.out,hrt]);clear HR hrt
      go_wp2_with fail
      refine (HC.out _).mono ?_;rintro e w4 ⟨⟨ds,rfl,ty,rfl,⟨ay,cy,rfl,hy⟩⟩,hb4⟩;have hz4:=hb4.size;have HT:=hJ (Bx.fresh w4 54 [.string (kBL).elem,.string (kBL).shape.row,.slice ay (kBL).shape.dims.length cy]);have t0:=HT.out.cell 0 _ rfl;have t1:=HT.out.cell 1 _ rfl;have t2:=HT.out.cell 2 _ rfl;have HY:=hJ (hy.below ((Below.refl _ _).alloc (Nat.le_refl _) (.cells #[.string (kBL).elem,.string (kBL).shape.row,.slice ay (kBL).shape.dims.length cy] 54)));have HB5:=hJ (hb4.alloc hz4 (.cells #[.string (kBL).elem,.string (kBL).shape.row,.slice ay (kBL).shape.dims.length cy] 54));replace HBX:=hJ (HBX.out.below HB5.out HBX.out.lt);replace HRs:=hJ (HRs.out.below HB5.out HRs.out.lt);replace HBl:=hJ (HBl.out.trans (HB5.out.mono HBl.out.size));replace HSp:=hJ (HSp.out.below HB5.out);clear hb4 hy HC;clear HY HSp HT t0 t1 t2;have z0:=HRs.out.cell 0 _ rfl;have z1:=HRs.out.cell 1 _ rfl;have z2:=HRs.out.cell 2 _ rfl;have z3:=HRs.out.cell 3 _ rfl;have z4:=HRs.out.cell 4 _ rfl;have f0:=HRs.out.fz 0;have f1:=HRs.out.fz 1;have f2:=HRs.out.fz 2;have f3:=HRs.out.fz 3;have f4:=HRs.out.fz 4;have hl0:=HRs.out.lt;have HZz:=hJ (((((HRs.out.set 0 (.slice none 0 0)).set 1 (.string ⟨#[]⟩)).set 2 (.string ⟨#[]⟩)).set 3 (.slice none 0 0)).set 4 (.slice none 0 0));have s0:=HZz.out.cell 0 _ rfl;have s1:=HZz.out.cell 1 _ rfl;have s2:=HZz.out.cell 2 _ rfl;have s3:=HZz.out.cell 3 _ rfl;have s4:=HZz.out.cell 4 _ rfl
      go_upto_region 16 with fail
      (try simp only []);repeat (first | go_values | go_skip | go_guarded | go_step | go_upon)
      refine bodyPost_ret (v:=.tuple #[.agg #[.slice none 0 0,.string ⟨#[]⟩,.string ⟨#[]⟩,.slice none 0 0,.slice none 0 0],.int .i64 6]) (by simp [results,results30,go_sem,s0,s1,s2,s3,s4,hl0]) rfl ?_;have HFr:Hid (∀ W,RSch.rd (fun k=>w.heap.size≤k) W [.slice none 0 0,.string ⟨#[]⟩,.string ⟨#[]⟩,.slice none 0 0,.slice none 0 0] (optS res)):=hJ (fun W=>by rw [HF.out];exact ⟨_,_,_,rfl,⟨none,0,rfl,Sl.empty RTyp _ _⟩,⟨none,0,rfl,Sl.empty RLin _ _⟩,⟨none,0,rfl,Sl.empty RLin _ _⟩⟩);exact ⟨⟨_,by rw [HF.out];rfl,HFr.out _⟩,((((HBl.out.setCell (Nat.le_refl _) _).setCell (Nat.le_refl _) _).setCell (Nat.le_refl _) _).setCell (Nat.le_refl _) _).setCell (Nat.le_refl _) _⟩
    | some t =>
      have HC:=hJ (fun W=>kG9 hrt hrz W);replace HR:Hid (res=match goWR (s.size+2) wh sm [] with | none=>none | some ls=>kII s ⟨ps,t,ls⟩):=hJ (by rw [HR.out,hrt]);have hvt:=(kD7 hrt).1;clear hrt
      go_wp2_with fail
      refine (HC.out _).mono ?_;rintro e w4 ⟨⟨ds,rfl,ty,rfl,⟨ay,cy,rfl,hy⟩⟩,hb4⟩;have hz4:=hb4.size;have HT:=hJ (Bx.fresh w4 54 [.string (t).elem,.string (t).shape.row,.slice ay (t).shape.dims.length cy]);have t0:=HT.out.cell 0 _ rfl;have t1:=HT.out.cell 1 _ rfl;have t2:=HT.out.cell 2 _ rfl;have HY:=hJ (hy.below ((Below.refl _ _).alloc (Nat.le_refl _) (.cells #[.string (t).elem,.string (t).shape.row,.slice ay (t).shape.dims.length cy] 54)));have HB5:=hJ (hb4.alloc hz4 (.cells #[.string (t).elem,.string (t).shape.row,.slice ay (t).shape.dims.length cy] 54));replace HBX:=hJ (HBX.out.below HB5.out HBX.out.lt);replace HRs:=hJ (HRs.out.below HB5.out HRs.out.lt);replace HBl:=hJ (HBl.out.trans (HB5.out.mono HBl.out.size));replace HSp:=hJ (HSp.out.below HB5.out);clear hb4 hy HC;have v1:=HBX.out.cell 1 _ rfl;have v2:=HBX.out.cell 2 _ rfl;have v3:=HBX.out.cell 3 _ rfl;have f1:=HBX.out.fz 1;have f2:=HBX.out.fz 2;have f3:=HBX.out.fz 3;have hlo:=HBX.out.lt
      go_upto_block 2 with fail
      have hne:g≠w.heap.size:=by omega
      replace HBX:=hJ (((HBX.out.set 1 (.string t.elem)).set 2 (.string t.shape.row)).set 3 (.slice ay t.shape.dims.length cy));replace HRs:=hJ (((HRs.out.other (a:=⟨g,1,none⟩) (u:=.string t.elem) hne).other (a:=⟨g,2,none⟩) (u:=.string t.shape.row) hne).other (a:=⟨g,3,none⟩) (u:=.slice ay t.shape.dims.length cy) hne);replace HBl:=hJ (((HBl.out.setCell (show w.heap.size≤(⟨g,1,none⟩:Addr).block from Nat.le_of_lt hgw) (.string t.elem)).setCell (show w.heap.size≤(⟨g,2,none⟩:Addr).block from Nat.le_of_lt hgw) (.string t.shape.row)).setCell (show w.heap.size≤(⟨g,3,none⟩:Addr).block from Nat.le_of_lt hgw) (.slice ay t.shape.dims.length cy));replace HY:=hJ (((HY.out.frame (w':=World.setCell _ ⟨g,1,none⟩ (.string t.elem)) (fun k hk _=>kAB (by show g≠k;omega))).frame (w':=World.setCell _ ⟨g,2,none⟩ (.string t.shape.row)) (fun k hk _=>kAB (by show g≠k;omega))).frame (w':=World.setCell _ ⟨g,3,none⟩ (.slice ay t.shape.dims.length cy)) (fun k hk _=>kAB (by show g≠k;omega)));replace HSp:=hJ (((HSp.out.frame (w':=World.setCell _ ⟨g,1,none⟩ (.string t.elem)) (fun k hk _=>kAB (by show g≠k;omega))).frame (w':=World.setCell _ ⟨g,2,none⟩ (.string t.shape.row)) (fun k hk _=>kAB (by show g≠k;omega))).frame (w':=World.setCell _ ⟨g,3,none⟩ (.slice ay t.shape.dims.length cy)) (fun k hk _=>kAB (by show g≠k;omega)));replace HY:=hJ (HY.out.mono (S':=fun q=>g<q) (fun q hq _=>by omega));clear t0 t1 t2 HT v1 v2 v3 f1 f2 f3 HB5 hlo;generalize (((w4.alloc (.cells #[.string t.elem,.string t.shape.row,.slice ay t.shape.dims.length cy] 54)).setCell ⟨g,1,none⟩ (.string t.elem)).setCell ⟨g,2,none⟩ (.string t.shape.row)).setCell ⟨g,3,none⟩ (.slice ay t.shape.dims.length cy)=W6 at *;obtain ⟨tot2,hto⟩:∃ tot,tot=goWR (s.size+2) wh sm []:=⟨_,rfl⟩
      rw [← hto] at HR;have HTo:=hJ hto.symm;clear hto
      go_cut [15,16] (fun v15 v16 W=>∃ (ls:List Lin) (qa:Option Addr) (qc:Nat),Hid (tot2=some ls)∧Hid (∀ d ∈ ls,kAC d=true)∧Hid (Bx W g 57 [.slice pa ps.length pc,.string t.elem,.string t.shape.row,.slice ay t.shape.dims.length cy,.slice qa ls.length qc])∧Hid (Sl RTyp (fun q=>g<q) W pa ps.length pc ps)∧Hid (Sl RLin (fun q=>g<q) W ay t.shape.dims.length cy t.shape.dims)∧Hid (Sl RLin (fun q=>g<q) W qa ls.length qc ls)∧Hid (Bx W w.heap.size 57 [.slice none 0 0,.string ⟨#[]⟩,.string ⟨#[]⟩,.slice none 0 0,.slice none 0 0])∧Hid (Below w.heap.size w W))
      case first =>
       have HR2:Hid (tot2=none→res=none):=hJ (fun h=>by rw [HR.out,h]);have hgW6:=HBX.out.lt;replace HSp:=hJ (HSp.out.mono (S':=fun q=>g<q∧q<W6.heap.size) (fun q hq hl=>⟨hq,hl⟩));replace HY:=hJ (HY.out.mono (S':=fun q=>g<q∧q<W6.heap.size) (fun q hq hl=>⟨hq,hl⟩))
       go_wp2_with fail
       go_loopg [15,16] (s.size+2) (fun gk v15 v16 wr=>∃ (r:Str) (b:Bool) (ls:List Lin) (qa:Option Addr) (qm qc:Nat),v15= .string r∧v16= .bool b∧0<gk∧(b=true→r.size+1<gk∧ls.length+r.size≤s.size+1)∧r.size≤s.size∧ls.length≤s.size+2∧W6.heap.size≤wr.heap.size∧Hid (goWR gk r b ls=tot2)∧Hid (∀ d ∈ ls,kAC d=true)∧Hid (Bx wr g 57 [.slice pa ps.length pc,.string t.elem,.string t.shape.row,.slice ay t.shape.dims.length cy,.slice qa qm qc])∧Hid (Own RLin 49 (fun q=>W6.heap.size≤q) wr W6.heap.size (.slice qa qm qc) ls)∧Hid (Sl RTyp (fun q=>g<q∧q<W6.heap.size) wr pa ps.length pc ps)∧Hid (Sl RLin (fun q=>g<q∧q<W6.heap.size) wr ay t.shape.dims.length cy t.shape.dims)∧Hid (Bx wr w.heap.size 57 [.slice none 0 0,.string ⟨#[]⟩,.string ⟨#[]⟩,.slice none 0 0,.slice none 0 0])∧Hid (Below w.heap.size w wr))
       case atStart=>exact ⟨wh,sm,[],none,0,0,rfl,rfl,by omega,fun _=>⟨by omega,by show 0+_≤_;omega⟩,hwz,Nat.zero_le _,Nat.le_refl _,HTo,hJ (fun t ht=>by cases ht),HBX,hJ (Own.nil _ _ _ _ _),HSp,HY,HRs,HBl⟩
       case round =>
        clear HBX HRs HBl HTo HSp HY;obtain ⟨r,b,ls,qa,qm,qc,rfl,rfl,hg0,hbr,hrs2,hll,hwz2,HRun,HV,HBX,HOwn,HSp,HY,HRs,HBl⟩:=hrel;obtain ⟨gk,rfl⟩:∃ g,gk=g+1:=⟨gk - 1,by omega⟩
        cases b with
        | false =>
          have HTot:Hid (tot2=some ls):=hJ (by rw [← HRun.out,goWR_false]);obtain ⟨a9,c9,e9,hsl⟩:=HOwn.out.sl;rw [Value.slice.injEq] at e9;obtain ⟨rfl,rfl,rfl⟩:=e9;clear hbr
          go_wp2_with fail
          go_meet
          exact ⟨ls,qa,qc,HTot,HV,HBX,hJ (HSp.out.mono (fun q hq _=>hq.1)),hJ (HY.out.mono (fun q hq _=>hq.1)),hJ (hsl.mono (fun q hq _=>by rcases hq with q | q <;> omega)),HRs,HBl⟩
        | true =>
          obtain ⟨hb1,hb2⟩:=hbr rfl;clear hbr;replace HRun:Hid ((if kES (kBA (kCD (cutL r comS)) (cutL r comS))=0 then goWR gk (cutR r comS) (cutB r comS) (ls++[kER (kBA (kCD (cutL r comS)) (cutL r comS))]) else none)=tot2):=hJ (by rw [← HRun.out,goWR_true]);have HCc:=hJ (kJT r comS (by omega) (by decide) (by decide) wr);have hlz:=kKG r comS;obtain ⟨q1z,q2z,q3z⟩:=kKD r comS;have hc2:comS.size=2:=rfl
          go_wp2_with fail
          refine HCc.out.mono ?_;rintro e wr2 ⟨rfl,hbc⟩;replace HBX:=hJ (HBX.out.below hbc HBX.out.lt);replace HOwn:=hJ (HOwn.out.below hbc);replace HRs:=hJ (HRs.out.below hbc HRs.out.lt);replace HBl:=hJ (HBl.out.trans (hbc.mono HBl.out.size));replace HSp:=hJ (HSp.out.below hbc);replace HY:=hJ (HY.out.below hbc);have hzc:=hbc.size;clear HCc hbc;generalize cutL r comS=x at *;obtain ⟨r2,hr2⟩:∃ r2,r2=cutR r comS:=⟨_,rfl⟩
          obtain ⟨b2,hb3⟩:∃ b2,b2=cutB r comS:=⟨_,rfl⟩
          rw [hc2,← hr2,← hb3] at q2z;rw [← hr2] at q1z;rw [← hr2,← hb3] at HRun ⊢;clear hr2 hb3 q3z;have HSh:Hid (0<gk∧(b2=true→r2.size+1<gk∧(ls.length+1)+r2.size≤s.size+1)∧r2.size≤s.size∧ls.length+1≤s.size+2):=hJ ⟨by omega,fun h=>by have:=q2z h;omega,by omega,by omega⟩;clear q1z q2z;have HC:=hJ (ref04_Parse x (by omega) wr2);have HVl:=hJ (lossX_sz (kBA (kCD x) x));generalize kES (kBA (kCD x) x)=er at *;generalize kER (kBA (kCD x) x)=y at *
          go_wp2_with fail
          refine HC.out.mono ?_;rintro e w4 ⟨⟨ds,rfl,ty,rfl,aw,cw,rfl,hy⟩,hb4⟩;have HT:=hJ (Bx.fresh w4 49 [.int .i64 y.const,.slice aw y.terms.length cw]);have t0:=HT.out.cell 0 _ rfl;have t1:=HT.out.cell 1 _ rfl;have hz4:=hb4.size;have HYy:Hid (Sl kCB (fun k=>wr2.heap.size≤k) (w4.alloc (.cells #[.int .i64 y.const,.slice aw y.terms.length cw] 49)) aw y.terms.length cw y.terms):=hJ (hy.below ((Below.refl _ _).alloc (Nat.le_refl _) _));have HB5:Hid (Below wr2.heap.size wr2 (w4.alloc (.cells #[.int .i64 y.const,.slice aw y.terms.length cw] 49))):=hJ (hb4.alloc hz4 _);have HOld:=HOwn;replace HBX:=hJ (HBX.out.below HB5.out HBX.out.lt);replace HOwn:=hJ (HOwn.out.below HB5.out);replace HSp:=hJ (HSp.out.below HB5.out);replace HY:=hJ (HY.out.below HB5.out);replace HRs:=hJ (HRs.out.below HB5.out HRs.out.lt);replace HBl:=hJ (HBl.out.trans (HB5.out.mono HBl.out.size));have v4:=HBX.out.cell 4 _ rfl;have fv4:=HBX.out.fz 4;clear hb4 hy HC;by_cases her:er=0
          · subst her
            have HNx:Hid (goWR gk r2 b2 (ls++[y])=tot2):=hJ (by rw [← HRun.out,if_pos rfl]);have hvy:Hid (kAC y=true):=hJ (HVl.out rfl);clear HRun HVl
            go_wp2_with (at_builtin;refine kA4 kFA rfl _ _ rfl W6.heap.size _ _ rfl (HOwn.out.alloc _) _ y [.int .i64 y.const,.slice aw y.terms.length cw] rfl ⟨_,rfl,aw,cw,rfl,(HYy.out.below ((Below.refl _ _).alloc (Nat.le_refl _) _)).mono (fun q hq _=>⟨by omega,fun e=>by have:=(HOld.out.block e).2;omega⟩)⟩ (kA6 49 (by (simp only [kAK,kAI,Array.getElem?_push,Array.size_push];simp))) (by omega) (by unfold maxLen;omega) (by simp;omega) ?_;intro v9 w9 hown9 hb9 hk9;obtain ⟨a9,m9,c9,rfl⟩:=hown9.shape;have HX9:=hJ ((HBX.out.alloc _).kp hk9 (HOwn.out.ne (by omega)));have HR9:=hJ ((HRs.out.alloc _).kp hk9 (HOwn.out.ne (by omega)));have HS9:=hJ ((HSp.out.below ((Below.refl _ _).alloc (Nat.le_refl _) _)).frame (w':=w9) (fun q hq hl=>hk9.block q hl (HOwn.out.ne hq.2)));have HY9:=hJ ((HY.out.below ((Below.refl _ _).alloc (Nat.le_refl _) _)).frame (w':=w9) (fun q hq hl=>hk9.block q hl (HOwn.out.ne hq.2)));have z9:=HX9.out.cell 4 _ rfl;have f9:=HX9.out.fz 4;have hz9:=hb9.size)
            go_roundg gk
            case measure=>have:=HSh.out.1;omega
            case rel=>exact ⟨r2,b2,ls++[y],a9,m9,c9,rfl,rfl,HSh.out.1,fun h=>by rw [List.length_append];exact HSh.out.2.1 h,HSh.out.2.2.1,by rw [List.length_append];exact HSh.out.2.2.2,by have:=hz9;simp at this ⊢;omega,HNx,hJ (fun d hd=>(List.mem_append.mp hd).elim (HV.out d) (fun q=>by rw [List.mem_singleton.mp q];exact hvy.out)),hJ (HX9.out.set 4 _),hJ (hown9.set _ (fun q hq=>by show q≠g;omega) (by show g<_;omega)),hJ (HS9.out.frame (fun q hq _=>kAB (by show g≠q;omega))),hJ (HY9.out.frame (fun q hq _=>kAB (by show g≠q;omega))),hJ (HR9.out.other (by show g≠_;omega)),hJ (((HBl.out.alloc HBl.out.size _).trans (hb9.mono (by omega))).setCell (by show _≤g;omega) _)⟩
          · have HF:Hid (res=none):=hJ (HR2.out (by rw [← HRun.out,if_neg her]))
            have n9:(er != 0)=true:=bne_iff_ne.2 her;clear HRun her;have z0:=HRs.out.cell 0 _ rfl;have z1:=HRs.out.cell 1 _ rfl;have z2:=HRs.out.cell 2 _ rfl;have z3:=HRs.out.cell 3 _ rfl;have z4:=HRs.out.cell 4 _ rfl;have f0:=HRs.out.fz 0;have f1:=HRs.out.fz 1;have f2:=HRs.out.fz 2;have f3:=HRs.out.fz 3;have f4:=HRs.out.fz 4;have hl0:=HRs.out.lt;have HZz:=hJ (((((HRs.out.set 0 (.slice none 0 0)).set 1 (.string ⟨#[]⟩)).set 2 (.string ⟨#[]⟩)).set 3 (.slice none 0 0)).set 4 (.slice none 0 0));have s0:=HZz.out.cell 0 _ rfl;have s1:=HZz.out.cell 1 _ rfl;have s2:=HZz.out.cell 2 _ rfl;have s3:=HZz.out.cell 3 _ rfl;have s4:=HZz.out.cell 4 _ rfl
            go_upto_region 22 with fail
            (try simp only []);repeat (first | go_values | go_skip | go_guarded | go_step | go_upon)
            refine bodyPost_ret (v:=.tuple #[.agg #[.slice none 0 0,.string ⟨#[]⟩,.string ⟨#[]⟩,.slice none 0 0,.slice none 0 0],.int .i64 6]) (by simp [results,results30,go_sem,s0,s1,s2,s3,s4,hl0]) rfl ?_;have HFr:Hid (∀ W,RSch.rd (fun k=>w.heap.size≤k) W [.slice none 0 0,.string ⟨#[]⟩,.string ⟨#[]⟩,.slice none 0 0,.slice none 0 0] (optS res)):=hJ (fun W=>by rw [HF.out];exact ⟨_,_,_,rfl,⟨none,0,rfl,Sl.empty RTyp _ _⟩,⟨none,0,rfl,Sl.empty RLin _ _⟩,⟨none,0,rfl,Sl.empty RLin _ _⟩⟩);exact ⟨⟨_,by rw [HF.out];rfl,HFr.out _⟩,((((HBl.out.setCell (Nat.le_refl _) _).setCell (Nat.le_refl _) _).setCell (Nat.le_refl _) _).setCell (Nat.le_refl _) _).setCell (Nat.le_refl _) _⟩
      case rest =>
       obtain ⟨ls,qa,qc,HLs,HVl,HBX,HSp,HY,HQ,HRs,HBl⟩:=hcut;generalize hwc:wc=W8 at *;clear hwc;replace HR:Hid (res=kII s ⟨ps,t,ls⟩):=hJ (by rw [HR.out,HLs.out]);have HR3:Hid (res=if kAH ⟨ps,t,ls⟩ && (kBR ⟨ps,t,ls⟩).toList==s.toList then some ⟨ps,t,ls⟩ else none):=hJ HR.out;have hgW8:=HBX.out.lt;have HRd:Hid (RSch.rd (fun q=>g<q) W8 [.slice pa ps.length pc,.string t.elem,.string t.shape.row,.slice ay t.shape.dims.length cy,.slice qa ls.length qc] ⟨ps,t,ls⟩):=hJ ⟨_,_,_,rfl,⟨pa,pc,rfl,HSp.out⟩,⟨ay,cy,rfl,HY.out⟩,⟨qa,qc,rfl,HQ.out⟩⟩;have HC:=hJ (kF5 HRd.out ⟨fun t ht=>typT_sz (HVp.out t ht),typT_sz hvt,fun d hd=>kFU (HVl.out d hd)⟩ (by show ps.length≤_;omega));have v0:=HBX.out.cell 0 _ rfl;have v1:=HBX.out.cell 1 _ rfl;have v2:=HBX.out.cell 2 _ rfl;have v3:=HBX.out.cell 3 _ rfl;have v4:=HBX.out.cell 4 _ rfl;clear HSp HY HQ HR;cases hv:kAH ⟨ps,t,ls⟩ with
       | false =>
         have HF:Hid (res=none):=hJ (by rw [HR3.out,hv];rfl);have HVe:Hid (kB6 (kAH ⟨ps,t,ls⟩)=1):=hJ (by rw [hv];rfl);rw [HVe.out] at HC;generalize kCG ⟨ps,t,ls⟩=o at *;clear HRd HR3
         go_wp2_with fail
         refine (HC.out).mono ?_;rintro e w1 ⟨rfl,hb⟩;replace HRs:=hJ (HRs.out.below hb HRs.out.lt);replace HBl:=hJ (HBl.out.trans (hb.mono HBl.out.size));have z0:=HRs.out.cell 0 _ rfl;have z1:=HRs.out.cell 1 _ rfl;have z2:=HRs.out.cell 2 _ rfl;have z3:=HRs.out.cell 3 _ rfl;have z4:=HRs.out.cell 4 _ rfl;have f0:=HRs.out.fz 0;have f1:=HRs.out.fz 1;have f2:=HRs.out.fz 2;have f3:=HRs.out.fz 3;have f4:=HRs.out.fz 4;have hl0:=HRs.out.lt;have HZz:=hJ (((((HRs.out.set 0 (.slice none 0 0)).set 1 (.string ⟨#[]⟩)).set 2 (.string ⟨#[]⟩)).set 3 (.slice none 0 0)).set 4 (.slice none 0 0));have s0:=HZz.out.cell 0 _ rfl;have s1:=HZz.out.cell 1 _ rfl;have s2:=HZz.out.cell 2 _ rfl;have s3:=HZz.out.cell 3 _ rfl;have s4:=HZz.out.cell 4 _ rfl
         go_upto_region 27 with fail
         (try simp only []);repeat (first | go_values | go_skip | go_guarded | go_step | go_upon)
         refine bodyPost_ret (v:=.tuple #[.agg #[.slice none 0 0,.string ⟨#[]⟩,.string ⟨#[]⟩,.slice none 0 0,.slice none 0 0],.int .i64 6]) (by simp [results,results30,go_sem,s0,s1,s2,s3,s4,hl0]) rfl ?_;have HFr:Hid (∀ W,RSch.rd (fun k=>w.heap.size≤k) W [.slice none 0 0,.string ⟨#[]⟩,.string ⟨#[]⟩,.slice none 0 0,.slice none 0 0] (optS res)):=hJ (fun W=>by rw [HF.out];exact ⟨_,_,_,rfl,⟨none,0,rfl,Sl.empty RTyp _ _⟩,⟨none,0,rfl,Sl.empty RLin _ _⟩,⟨none,0,rfl,Sl.empty RLin _ _⟩⟩);exact ⟨⟨_,by rw [HF.out];rfl,HFr.out _⟩,((((HBl.out.setCell (Nat.le_refl _) _).setCell (Nat.le_refl _) _).setCell (Nat.le_refl _) _).setCell (Nat.le_refl _) _).setCell (Nat.le_refl _) _⟩
       | true =>
         have HPe:Hid (kCG ⟨ps,t,ls⟩=kBR ⟨ps,t,ls⟩):=hJ (by unfold kCG;rw [if_pos hv]);have HVe:Hid (kB6 (kAH ⟨ps,t,ls⟩)=0):=hJ (by rw [hv];rfl);rw [HVe.out,HPe.out] at HC;rw [hv] at HR3;generalize kBR ⟨ps,t,ls⟩=o at *
         go_wp2_with fail
         refine (HC.out).mono ?_;rintro e w2 ⟨rfl,hb⟩;have HB2:=hJ hb;replace v0:=(hb.cell (by show g<_;omega)).trans v0;replace v1:=(hb.cell (by show g<_;omega)).trans v1;replace v2:=(hb.cell (by show g<_;omega)).trans v2;replace v3:=(hb.cell (by show g<_;omega)).trans v3;replace v4:=(hb.cell (by show g<_;omega)).trans v4;replace HRs:=hJ (HRs.out.below HB2.out HRs.out.lt);replace HBl:=hJ (HBl.out.trans (HB2.out.mono HBl.out.size));cases ho:(o.toList==s.toList) with
         | false =>
           have HF:Hid (res=none):=hJ (by rw [HR3.out,ho];rfl);have z0:=HRs.out.cell 0 _ rfl;have z1:=HRs.out.cell 1 _ rfl;have z2:=HRs.out.cell 2 _ rfl;have z3:=HRs.out.cell 3 _ rfl;have z4:=HRs.out.cell 4 _ rfl;have f0:=HRs.out.fz 0;have f1:=HRs.out.fz 1;have f2:=HRs.out.fz 2;have f3:=HRs.out.fz 3;have f4:=HRs.out.fz 4;have hl0:=HRs.out.lt;have HZz:=hJ (((((HRs.out.set 0 (.slice none 0 0)).set 1 (.string ⟨#[]⟩)).set 2 (.string ⟨#[]⟩)).set 3 (.slice none 0 0)).set 4 (.slice none 0 0));have s0:=HZz.out.cell 0 _ rfl;have s1:=HZz.out.cell 1 _ rfl;have s2:=HZz.out.cell 2 _ rfl;have s3:=HZz.out.cell 3 _ rfl;have s4:=HZz.out.cell 4 _ rfl
           go_upto_region 27 with fail
           (try simp only []);repeat (first | go_values | go_skip | go_guarded | go_step | go_upon)
           refine bodyPost_ret (v:=.tuple #[.agg #[.slice none 0 0,.string ⟨#[]⟩,.string ⟨#[]⟩,.slice none 0 0,.slice none 0 0],.int .i64 6]) (by simp [results,results30,go_sem,s0,s1,s2,s3,s4,hl0]) rfl ?_;have HFr:Hid (∀ W,RSch.rd (fun k=>w.heap.size≤k) W [.slice none 0 0,.string ⟨#[]⟩,.string ⟨#[]⟩,.slice none 0 0,.slice none 0 0] (optS res)):=hJ (fun W=>by rw [HF.out];exact ⟨_,_,_,rfl,⟨none,0,rfl,Sl.empty RTyp _ _⟩,⟨none,0,rfl,Sl.empty RLin _ _⟩,⟨none,0,rfl,Sl.empty RLin _ _⟩⟩);exact ⟨⟨_,by rw [HF.out];rfl,HFr.out _⟩,((((HBl.out.setCell (Nat.le_refl _) _).setCell (Nat.le_refl _) _).setCell (Nat.le_refl _) _).setCell (Nat.le_refl _) _).setCell (Nat.le_refl _) _⟩
         | true =>
           have HF:Hid (res=some ⟨ps,t,ls⟩):=hJ (by rw [HR3.out,ho];rfl);have z0:=HRs.out.cell 0 _ rfl;have z1:=HRs.out.cell 1 _ rfl;have z2:=HRs.out.cell 2 _ rfl;have z3:=HRs.out.cell 3 _ rfl;have z4:=HRs.out.cell 4 _ rfl;have f0:=HRs.out.fz 0;have f1:=HRs.out.fz 1;have f2:=HRs.out.fz 2;have f3:=HRs.out.fz 3;have f4:=HRs.out.fz 4;have hl0:=HRs.out.lt
           go_upto_region 28 with fail
           (try simp only []);repeat (first | go_values | go_skip | go_guarded | go_step | go_upon)
           have HZz:=hJ (((((HRs.out.set 0 (.slice pa ps.length pc)).set 1 (.string t.elem)).set 2 (.string t.shape.row)).set 3 (.slice ay t.shape.dims.length cy)).set 4 (.slice qa ls.length qc));have s0:=HZz.out.cell 0 _ rfl;have s1:=HZz.out.cell 1 _ rfl;have s2:=HZz.out.cell 2 _ rfl;have s3:=HZz.out.cell 3 _ rfl;have s4:=HZz.out.cell 4 _ rfl;refine bodyPost_ret (v:=.tuple #[.agg #[.slice pa ps.length pc,.string t.elem,.string t.shape.row,.slice ay t.shape.dims.length cy,.slice qa ls.length qc],.int .i64 0]) (by simp [results,results30,go_sem,s0,s1,s2,s3,s4,hl0]) rfl ?_;have hfr:∀ (W:World) (j:Nat) (u:Value) (q:Nat),g<q→(W.setCell ⟨w.heap.size,j,none⟩ u).heap[q]? =W.heap[q]? :=fun W j u q hq=>kAB (by show w.heap.size≠q;omega)
           exact ⟨⟨_,by rw [HF.out];rfl,by rw [HF.out];exact RSch.mono (RSch.frame (RSch.frame (RSch.frame (RSch.frame (RSch.frame (RSch.below HRd.out HB2.out) (fun q hq _=>hfr _ 0 _ q hq)) (fun q hq _=>hfr _ 1 _ q hq)) (fun q hq _=>hfr _ 2 _ q hq)) (fun q hq _=>hfr _ 3 _ q hq)) (fun q hq _=>hfr _ 4 _ q hq)) (fun q hq _=>by show w.heap.size≤q;omega)⟩,((((HBl.out.setCell (Nat.le_refl _) _).setCell (Nat.le_refl _) _).setCell (Nat.le_refl _) _).setCell (Nat.le_refl _) _).setCell (Nat.le_refl _) _⟩
 · have HF:Hid (res=none):=hJ (by rw [HR.out,if_neg hok])
   clear HR;cases ok1:cutB s arrS with
   | false =>
     clear hok;have z0:=HRs.out.cell 0 _ rfl;have z1:=HRs.out.cell 1 _ rfl;have z2:=HRs.out.cell 2 _ rfl;have z3:=HRs.out.cell 3 _ rfl;have z4:=HRs.out.cell 4 _ rfl;have f0:=HRs.out.fz 0;have f1:=HRs.out.fz 1;have f2:=HRs.out.fz 2;have f3:=HRs.out.fz 3;have f4:=HRs.out.fz 4;have hl0:=HRs.out.lt;have HZz:=hJ (((((HRs.out.set 0 (.slice none 0 0)).set 1 (.string ⟨#[]⟩)).set 2 (.string ⟨#[]⟩)).set 3 (.slice none 0 0)).set 4 (.slice none 0 0));have s0:=HZz.out.cell 0 _ rfl;have s1:=HZz.out.cell 1 _ rfl;have s2:=HZz.out.cell 2 _ rfl;have s3:=HZz.out.cell 3 _ rfl;have s4:=HZz.out.cell 4 _ rfl
     go_upto_region 4 with fail
     (try simp only []);repeat (first | go_values | go_skip | go_guarded | go_step | go_upon)
     refine bodyPost_ret (v:=.tuple #[.agg #[.slice none 0 0,.string ⟨#[]⟩,.string ⟨#[]⟩,.slice none 0 0,.slice none 0 0],.int .i64 6]) (by simp [results,results30,go_sem,s0,s1,s2,s3,s4,hl0]) rfl ?_;have HFr:Hid (∀ W,RSch.rd (fun k=>w.heap.size≤k) W [.slice none 0 0,.string ⟨#[]⟩,.string ⟨#[]⟩,.slice none 0 0,.slice none 0 0] (optS res)):=hJ (fun W=>by rw [HF.out];exact ⟨_,_,_,rfl,⟨none,0,rfl,Sl.empty RTyp _ _⟩,⟨none,0,rfl,Sl.empty RLin _ _⟩,⟨none,0,rfl,Sl.empty RLin _ _⟩⟩);exact ⟨⟨_,by rw [HF.out];rfl,HFr.out _⟩,((((HBl.out.setCell (Nat.le_refl _) _).setCell (Nat.le_refl _) _).setCell (Nat.le_refl _) _).setCell (Nat.le_refl _) _).setCell (Nat.le_refl _) _⟩
   | true =>
     by_cases ok2:0<(cutL s arrS).size
     · have hne:(cutL s arrS).toList.isEmpty=false:=kDD ok2
       have g0:=kBH (cutL s arrS) 0 ok2
       have n3:(bt (cutL s arrS) 0 != 40)=true:=by
        cases hq:(bt (cutL s arrS) 0==40) with
        | false=>unfold bne;rw [hq];rfl
        | true=>exact absurd (by rw [ok1,decide_eq_true ok2,hq];rfl) hok
       clear hok;generalize bt (cutL s arrS) 0=c0 at *;have z0:=HRs.out.cell 0 _ rfl;have z1:=HRs.out.cell 1 _ rfl;have z2:=HRs.out.cell 2 _ rfl;have z3:=HRs.out.cell 3 _ rfl;have z4:=HRs.out.cell 4 _ rfl;have f0:=HRs.out.fz 0;have f1:=HRs.out.fz 1;have f2:=HRs.out.fz 2;have f3:=HRs.out.fz 3;have f4:=HRs.out.fz 4;have hl0:=HRs.out.lt;have HZz:=hJ (((((HRs.out.set 0 (.slice none 0 0)).set 1 (.string ⟨#[]⟩)).set 2 (.string ⟨#[]⟩)).set 3 (.slice none 0 0)).set 4 (.slice none 0 0));have s0:=HZz.out.cell 0 _ rfl;have s1:=HZz.out.cell 1 _ rfl;have s2:=HZz.out.cell 2 _ rfl;have s3:=HZz.out.cell 3 _ rfl;have s4:=HZz.out.cell 4 _ rfl
       go_upto_region 4 with fail
       (try simp only []);repeat (first | go_values | go_skip | go_guarded | go_step | go_upon)
       refine bodyPost_ret (v:=.tuple #[.agg #[.slice none 0 0,.string ⟨#[]⟩,.string ⟨#[]⟩,.slice none 0 0,.slice none 0 0],.int .i64 6]) (by simp [results,results30,go_sem,s0,s1,s2,s3,s4,hl0]) rfl ?_;have HFr:Hid (∀ W,RSch.rd (fun k=>w.heap.size≤k) W [.slice none 0 0,.string ⟨#[]⟩,.string ⟨#[]⟩,.slice none 0 0,.slice none 0 0] (optS res)):=hJ (fun W=>by rw [HF.out];exact ⟨_,_,_,rfl,⟨none,0,rfl,Sl.empty RTyp _ _⟩,⟨none,0,rfl,Sl.empty RLin _ _⟩,⟨none,0,rfl,Sl.empty RLin _ _⟩⟩);exact ⟨⟨_,by rw [HF.out];rfl,HFr.out _⟩,((((HBl.out.setCell (Nat.le_refl _) _).setCell (Nat.le_refl _) _).setCell (Nat.le_refl _) _).setCell (Nat.le_refl _) _).setCell (Nat.le_refl _) _⟩
     · have hne:(cutL s arrS).toList.isEmpty=true:=by
        cases hq:(cutL s arrS).toList.isEmpty with
        | true=>rfl
        | false=>exact absurd (kDC hq) ok2
       clear hok;have z0:=HRs.out.cell 0 _ rfl;have z1:=HRs.out.cell 1 _ rfl;have z2:=HRs.out.cell 2 _ rfl;have z3:=HRs.out.cell 3 _ rfl;have z4:=HRs.out.cell 4 _ rfl;have f0:=HRs.out.fz 0;have f1:=HRs.out.fz 1;have f2:=HRs.out.fz 2;have f3:=HRs.out.fz 3;have f4:=HRs.out.fz 4;have hl0:=HRs.out.lt;have HZz:=hJ (((((HRs.out.set 0 (.slice none 0 0)).set 1 (.string ⟨#[]⟩)).set 2 (.string ⟨#[]⟩)).set 3 (.slice none 0 0)).set 4 (.slice none 0 0));have s0:=HZz.out.cell 0 _ rfl;have s1:=HZz.out.cell 1 _ rfl;have s2:=HZz.out.cell 2 _ rfl;have s3:=HZz.out.cell 3 _ rfl;have s4:=HZz.out.cell 4 _ rfl
       go_upto_region 4 with fail
       (try simp only []);repeat (first | go_values | go_skip | go_guarded | go_step | go_upon)
       refine bodyPost_ret (v:=.tuple #[.agg #[.slice none 0 0,.string ⟨#[]⟩,.string ⟨#[]⟩,.slice none 0 0,.slice none 0 0],.int .i64 6]) (by simp [results,results30,go_sem,s0,s1,s2,s3,s4,hl0]) rfl ?_;have HFr:Hid (∀ W,RSch.rd (fun k=>w.heap.size≤k) W [.slice none 0 0,.string ⟨#[]⟩,.string ⟨#[]⟩,.slice none 0 0,.slice none 0 0] (optS res)):=hJ (fun W=>by rw [HF.out];exact ⟨_,_,_,rfl,⟨none,0,rfl,Sl.empty RTyp _ _⟩,⟨none,0,rfl,Sl.empty RLin _ _⟩,⟨none,0,rfl,Sl.empty RLin _ _⟩⟩);exact ⟨⟨_,by rw [HF.out];rfl,HFr.out _⟩,((((HBl.out.setCell (Nat.le_refl _) _).setCell (Nat.le_refl _) _).setCell (Nat.le_refl _) _).setCell (Nat.le_refl _) _).setCell (Nat.le_refl _) _⟩
theorem kFI (s p:Str) (hs:s.size≤1000000) (hp0:0<p.size) (hp:p.size≤1000) (w:World) :
 Calls Tryz.prog 29 #[.string s,.string p] w fun e w'=>e= .returned (.tuple #[.string (befL s p),.string (befR s p),.bool (befB s p)])∧Below w.heap.size w w':=by
 have HL:Hid (befL s p=if befB s p then s.extract 0 (befN s p) else ⟨#[]⟩):=hJ rfl;have HR:Hid (befR s p=if befB s p then s.extract (befN s p+p.size) s.size else ⟨#[]⟩):=hJ rfl;have HB:Hid (befB s p=decide (befN s p+p.size≤s.size)):=hJ rfl;have HN:Hid (befN s p=kBW (fun i=> !((s.extract i (i+p.size)).toList==p.toList)) (s.size+1 - p.size) 0):=hJ rfl;generalize befN s p=rn at *;go_enter func29,ntmps29
 go_wp2_with fail
 go_loopw [7] (fun vi W=>∃ k:Nat,k≤s.size+1 - p.size∧vi= .int .i64 k∧Hid (rn=kBW (fun i=> !((s.extract i (i+p.size)).toList==p.toList)) (s.size+1 - p.size) k)∧Hid (Below w.heap.size w W)) (fun vi _=>s.size+1 - p.size - (intOf vi).toNat)
 case atStart=>exact ⟨0,Nat.zero_le _,rfl,HN,hJ (Below.refl _ _)⟩
 case round =>
  obtain ⟨k,hk,rfl,HK,HBl⟩:=hrel;by_cases hlt:k<s.size+1 - p.size
  · have q1:decide ((k:Int)+(p.size:Int)≤(s.size:Int))=true:=decide_eq_true (by omega)
    have hto:((k:Int)+(p.size:Int)).toNat=k+p.size:=by omega
    have HY:=hJ (fun h=>kDT (P:=fun i=> !((s.extract i (i+p.size)).toList==p.toList)) hlt h);have HNo:=hJ (fun h=>kB0 (P:=fun i=> !((s.extract i (i+p.size)).toList==p.toList)) (n:=s.size+1 - p.size) (k:=k) h);obtain ⟨x,hx⟩:∃ x,s.extract k (k+p.size)=x:=⟨_,rfl⟩
    have HP:Hid ((!((s.extract k (k+p.size)).toList==p.toList))= !(x.toList==p.toList)):=hJ (by rw [← hx]);cases hc:(x.toList==p.toList) with
    | true =>
      have hrn:rn=k:=by rw [HK.out];exact HNo.out (by rw [HP.out,hc];rfl)
      have hrb:befB s p=true:=by rw [HB.out,hrn];exact decide_eq_true (by omega)
      have HL2:Hid (befL s p=s.extract 0 k):=hJ (by rw [HL.out,hrb,hrn];rfl);have HR2:Hid (befR s p=s.extract (k+p.size) s.size):=hJ (by rw [HR.out,hrb,hrn];rfl);have HB2:=hJ hrb;clear HL HR HB HN HK HY HNo hrn hrb HP;have b0:(0:Int)≤(k:Int):=by omega
      have b1:(k:Int)≤(s.size:Int):=by omega
      have b2:(0:Int)≤(k:Int)+(p.size:Int):=by omega
      have b3:(k:Int)+(p.size:Int)≤(s.size:Int):=by omega
      have b4:IntKind.i64.wrap ((k:Int)+(p.size:Int))=(k:Int)+(p.size:Int):=by rw [IntKind.wrap_i64];omega
      go_upto_region 5 with fail
      refine kAA (by kernel_rfl) (by kernel_rfl) ?_
      repeat (go_big_quiet_step (fail))
      refine wpQuiet_nil ?_;rintro _ ⟨t9,rfl⟩
      go_wp2_with fail
      go_returns
      exact ⟨by rw [HL2.out,HR2.out,HB2.out];rfl,HBl.out.trans (t9.b.mono HBl.out.size)⟩
    | false =>
      have HK2:Hid (rn=kBW (fun i=> !((s.extract i (i+p.size)).toList==p.toList)) (s.size+1 - p.size) (k+1)):=hJ (by rw [HK.out];exact HY.out (by rw [HP.out,hc];rfl));clear HK HY HNo HP
      go_wp2_with fail
      go_roundw
      case rel=>exact ⟨k+1,by omega,by go_num,HK2,HBl⟩
      case measure=>simp [intOf];omega
  · have q1:decide ((k:Int)+(p.size:Int)≤(s.size:Int))=false:=decide_eq_false (by omega)
    have hrn:rn=k:=by rw [HK.out];exact kBO (by omega)
    have hrb:befB s p=false:=by rw [HB.out,hrn];exact decide_eq_false (by omega)
    have HL2:Hid (befL s p=⟨#[]⟩):=hJ (by rw [HL.out,hrb];rfl);have HR2:Hid (befR s p=⟨#[]⟩):=hJ (by rw [HR.out,hrb];rfl);have HB2:=hJ hrb;clear HL HR HB HN HK hrn hrb
    go_wp2_with fail
    go_returns
    exact ⟨by rw [HL2.out,HR2.out,HB2.out];rfl,HBl.out⟩
theorem ref24_digit (c:Int) (w:World):Calls Tryz.prog 92 #[.int .u8 c] w fun e w'=>e= .returned (.bool (kAN c))∧w=w':=by
 unfold kAN;by_cases h0:48≤c <;> by_cases h1:c≤57
 all_goals
  go_enter func92,ntmps92
  go_wp2_with fail
  go_ret;exact ⟨by simp [h0,h1],rfl⟩
theorem kGU (c:Int) (w:World):Calls Tryz.prog 91 #[.int .u8 c] w fun e w'=>e= .returned (.bool (kAR c))∧w=w':=by
 unfold kAR;by_cases h0:97≤c <;> by_cases h1:c≤122
 all_goals
  go_enter func91,ntmps91
  go_wp2_with fail
  go_ret;exact ⟨by simp [h0,h1],rfl⟩
theorem ref24_Reserved (s:Str) (w:World):Calls Tryz.prog 93 #[.string s] w fun e w'=>e= .returned (.bool (kAU s))∧w=w':=by
 have HR:Hid (kAU s=kAX.any (fun r=>s.toList==r)):=hJ rfl;by_cases h0:(s.toList==[98,111,111,108])=true
 case pos =>
  have HF:Hid (kAU s=true):=hJ (by rw [HR.out];simp only [kAX,List.any_cons,h0,Bool.or_true,Bool.true_or]);go_enter func93,ntmps93
  go_wp2_with fail
  go_ret;exact ⟨by rw [HF.out];rfl,rfl⟩
 have h0:(s.toList==[98,111,111,108])=false:=by simpa using h0
 by_cases h1:(s.toList==[100,101,102])=true
 case pos =>
  have HF:Hid (kAU s=true):=hJ (by rw [HR.out];simp only [kAX,List.any_cons,h1,Bool.or_true,Bool.true_or]);go_enter func93,ntmps93
  go_wp2_with fail
  go_ret;exact ⟨by rw [HF.out];rfl,rfl⟩
 have h1:(s.toList==[100,101,102])=false:=by simpa using h1
 by_cases h2:(s.toList==[101,120,112,111,114,116])=true
 case pos =>
  have HF:Hid (kAU s=true):=hJ (by rw [HR.out];simp only [kAX,List.any_cons,h2,Bool.or_true,Bool.true_or]);go_enter func93,ntmps93
  go_wp2_with fail
  go_ret;exact ⟨by rw [HF.out];rfl,rfl⟩
 have h2:(s.toList==[101,120,112,111,114,116])=false:=by simpa using h2
 by_cases h3:(s.toList==[102,97,108,115,101])=true
 case pos =>
  have HF:Hid (kAU s=true):=hJ (by rw [HR.out];simp only [kAX,List.any_cons,h3,Bool.or_true,Bool.true_or]);go_enter func93,ntmps93
  go_wp2_with fail
  go_ret;exact ⟨by rw [HF.out];rfl,rfl⟩
 have h3:(s.toList==[102,97,108,115,101])=false:=by simpa using h3
 by_cases h4:(s.toList==[102,111,108,100])=true
 case pos =>
  have HF:Hid (kAU s=true):=hJ (by rw [HR.out];simp only [kAX,List.any_cons,h4,Bool.or_true,Bool.true_or]);go_enter func93,ntmps93
  go_wp2_with fail
  go_ret;exact ⟨by rw [HF.out];rfl,rfl⟩
 have h4:(s.toList==[102,111,108,100])=false:=by simpa using h4
 by_cases h5:(s.toList==[105,109,112,111,114,116])=true
 case pos =>
  have HF:Hid (kAU s=true):=hJ (by rw [HR.out];simp only [kAX,List.any_cons,h5,Bool.or_true,Bool.true_or]);go_enter func93,ntmps93
  go_wp2_with fail
  go_ret;exact ⟨by rw [HF.out];rfl,rfl⟩
 have h5:(s.toList==[105,109,112,111,114,116])=false:=by simpa using h5
 by_cases h6:(s.toList==[105,110])=true
 case pos =>
  have HF:Hid (kAU s=true):=hJ (by rw [HR.out];simp only [kAX,List.any_cons,h6,Bool.or_true,Bool.true_or]);go_enter func93,ntmps93
  go_wp2_with fail
  go_ret;exact ⟨by rw [HF.out];rfl,rfl⟩
 have h6:(s.toList==[105,110])=false:=by simpa using h6
 by_cases h7:(s.toList==[105,110,116])=true
 case pos =>
  have HF:Hid (kAU s=true):=hJ (by rw [HR.out];simp only [kAX,List.any_cons,h7,Bool.or_true,Bool.true_or]);go_enter func93,ntmps93
  go_wp2_with fail
  go_ret;exact ⟨by rw [HF.out];rfl,rfl⟩
 have h7:(s.toList==[105,110,116])=false:=by simpa using h7
 by_cases h8:(s.toList==[108,101,116])=true
 case pos =>
  have HF:Hid (kAU s=true):=hJ (by rw [HR.out];simp only [kAX,List.any_cons,h8,Bool.or_true,Bool.true_or]);go_enter func93,ntmps93
  go_wp2_with fail
  go_ret;exact ⟨by rw [HF.out];rfl,rfl⟩
 have h8:(s.toList==[108,101,116])=false:=by simpa using h8
 by_cases h9:(s.toList==[109,111,100,117,108,101])=true
 case pos =>
  have HF:Hid (kAU s=true):=hJ (by rw [HR.out];simp only [kAX,List.any_cons,h9,Bool.or_true,Bool.true_or]);go_enter func93,ntmps93
  go_wp2_with fail
  go_ret;exact ⟨by rw [HF.out];rfl,rfl⟩
 have h9:(s.toList==[109,111,100,117,108,101])=false:=by simpa using h9
 by_cases h10:(s.toList==[115,99,97,110])=true
 case pos =>
  have HF:Hid (kAU s=true):=hJ (by rw [HR.out];simp only [kAX,List.any_cons,h10,Bool.or_true,Bool.true_or]);go_enter func93,ntmps93
  go_wp2_with fail
  go_ret;exact ⟨by rw [HF.out];rfl,rfl⟩
 have h10:(s.toList==[115,99,97,110])=false:=by simpa using h10
 by_cases h11:(s.toList==[115,105,122,101])=true
 case pos =>
  have HF:Hid (kAU s=true):=hJ (by rw [HR.out];simp only [kAX,List.any_cons,h11,Bool.or_true,Bool.true_or]);go_enter func93,ntmps93
  go_wp2_with fail
  go_ret;exact ⟨by rw [HF.out];rfl,rfl⟩
 have h11:(s.toList==[115,105,122,101])=false:=by simpa using h11
 by_cases h12:(s.toList==[116,114,117,101])=true
 case pos =>
  have HF:Hid (kAU s=true):=hJ (by rw [HR.out];simp only [kAX,List.any_cons,h12,Bool.or_true,Bool.true_or]);go_enter func93,ntmps93
  go_wp2_with fail
  go_ret;exact ⟨by rw [HF.out];rfl,rfl⟩
 have h12:(s.toList==[116,114,117,101])=false:=by simpa using h12
 by_cases h13:(s.toList==[119,104,101,114,101])=true
 case pos =>
  have HF:Hid (kAU s=true):=hJ (by rw [HR.out];simp only [kAX,List.any_cons,h13,Bool.or_true,Bool.true_or]);go_enter func93,ntmps93
  go_wp2_with fail
  go_ret;exact ⟨by rw [HF.out];rfl,rfl⟩
 have h13:(s.toList==[119,104,101,114,101])=false:=by simpa using h13
 have HF:Hid (kAU s=false):=hJ (by rw [HR.out];simp only [kAX,List.any_cons,List.any_nil,h0,h1,h2,h3,h4,h5,h6,h7,h8,h9,h10,h11,h12,h13,Bool.or_false]);go_enter func93,ntmps93
 go_wp2_with fail
 go_ret;exact ⟨by rw [HF.out];rfl,rfl⟩
def kIQ (s:Str) (k:Nat):Bool:=kAR (bt s k) || (k != 0 && kAN (bt s k))
theorem name_all {s:Str} (h:0<s.size):(List.range s.size).all (kIQ s)=(kAR (bt s 0) && (List.range s.size).all (runB s)):=by
 rw [Bool.eq_iff_iff,Bool.and_eq_true,List.all_eq_true,List.all_eq_true]
 constructor
 · intro q
   refine ⟨?_,fun k hk=>?_⟩
   · have:=q 0 (List.mem_range.2 h)
     unfold kIQ at this
     simpa using this
   · have:=q k hk
     unfold kIQ at this;unfold runB;rw [Bool.or_eq_true] at this ⊢;rcases this with r | r
     · exact .inr r
     · rw [Bool.and_eq_true] at r;exact .inl r.2
 · rintro ⟨q0,q⟩ k hk
   have:=q k hk;unfold runB at this;unfold kIQ;rw [Bool.or_eq_true] at this ⊢;rcases Nat.eq_zero_or_pos k with r | r
   · subst r;exact .inl q0
   · rcases this with u | u
     · exact .inr (by rw [u];simp;omega)
     · exact .inl u
theorem kCJ (s:Str) (w:World) (hsz:s.size≤281474976710656):Calls Tryz.prog 45 #[.string s] w fun e w'=>e= .returned (.bool (kAZ s))∧w=w':=by
 have HN:Hid (kAZ s=(decide (1≤s.size∧s.size≤30) && (kAR (bt s 0) && ((List.range s.size).all (runB s) && !kAU s)))):=hJ rfl;have HA:=hJ (fun h=>name_all (s:=s) h);go_enter func45,ntmps45
 go_wp2_with fail
 go_loopw [3] (fun i wr=>∃ k:Nat,k≤s.size∧i= .int .i64 k∧Hid (∀ j,j<k→kIQ s j=true)∧w=wr) (fun i _=>s.size - (intOf i).toNat)
 case atStart=>exact ⟨0,by omega,rfl,hJ (fun j hj=>absurd hj (by omega)),rfl⟩
 case round =>
  obtain ⟨k,hk,rfl,HT,rfl⟩:=hrel;by_cases hlt:k<s.size
  · have q1:decide ((k:Int)<(s.size:Int))=true:=decide_eq_true (by omega)
    have gk:=kBH s k hlt;have HR:Hid (kIQ s k=(kAR (bt s k) || (k != 0 && kAN (bt s k)))):=hJ rfl
    have HG:Hid (kIQ s k=true→∀ j,j<k+1→kIQ s j=true):=hJ (fun q j hj=>by
     rcases Nat.lt_or_ge j k with r | r
     · exact HT.out j r
     · obtain rfl:j=k:=by omega
       exact q)
    have HBd:Hid (kIQ s k=false→kAZ s=false):=hJ (fun q=>by
     rw [HN.out]
     have h2:(kAR (bt s 0) && (List.range s.size).all (runB s))=false:=by
      rw [← HA.out (by omega)];exact kFR hlt q
     rw [← Bool.and_assoc (kAR _),h2];simp)
    generalize bt s k=c at *;by_cases hl:kAR c=true
    · have HGo:=hJ (HG.out (by rw [HR.out,hl];rfl))
      go_wp2_with fail
      refine (kGU _ _).mono ?_;rintro e _ ⟨rfl,rfl⟩
      go_wp2_with fail
      go_roundw
      case rel=>exact ⟨k+1,by omega,by go_num,HGo,trivial⟩
      case measure=>simp [intOf];omega
    · have hl:kAR c=false:=by simpa using hl
      cases k with
      | zero =>
        have HF:=hJ (HBd.out (by rw [HR.out,hl];rfl))
        go_wp2_with fail
        refine (kGU _ _).mono ?_;rintro e _ ⟨rfl,rfl⟩
        go_wp2_with fail
        go_ret;exact ⟨by rw [HF.out];rfl,rfl⟩
      | succ k =>
        have hk0:(((k+1:Nat):Int)==0)=false:=beq_eq_false_iff_ne.2 (by omega);by_cases hd:kAN c=true
        · have HGo:=hJ (HG.out (by rw [HR.out,hl,hd];rfl))
          go_wp2_with fail
          refine (kGU _ _).mono ?_;rintro e _ ⟨rfl,rfl⟩
          go_wp2_with fail
          refine (ref24_digit _ _).mono ?_;rintro e _ ⟨rfl,rfl⟩
          go_wp2_with fail
          go_roundw
          case rel=>exact ⟨k+1+1,by omega,by go_num,HGo,trivial⟩
          case measure=>simp [intOf];omega
        · have hd:kAN c=false:=by simpa using hd
          have HF:=hJ (HBd.out (by rw [HR.out,hl,hd];rfl))
          go_wp2_with fail
          refine (kGU _ _).mono ?_;rintro e _ ⟨rfl,rfl⟩
          go_wp2_with fail
          refine (ref24_digit _ _).mono ?_;rintro e _ ⟨rfl,rfl⟩
          go_wp2_with fail
          go_ret;exact ⟨by rw [HF.out];rfl,rfl⟩
  · have HAl:Hid ((List.range s.size).all (kIQ s)=true):=hJ (kDG (fun j hj=>HT.out j (by omega)))
    have q1:decide ((k:Int)<(s.size:Int))=false:=decide_eq_false (by omega);by_cases h1:1≤s.size
    · by_cases h30:s.size≤30
      · have HF:Hid (kAZ s= !kAU s):=hJ (by
         have h2:=HAl.out;rw [HA.out (by omega),Bool.and_eq_true] at h2;rw [HN.out,h2.1,h2.2,decide_eq_true ⟨h1,h30⟩];rfl)
        go_wp2_with fail
        refine (ref24_Reserved _ _).mono ?_;rintro e _ ⟨rfl,rfl⟩
        go_wp2_with fail
        go_ret;exact ⟨by rw [HF.out];rfl,rfl⟩
      · have HF:Hid (kAZ s=false):=hJ (by rw [HN.out,decide_eq_false (by omega)];rfl)
        go_wp2_with fail
        go_ret;exact ⟨by rw [HF.out];rfl,rfl⟩
    · have HF:Hid (kAZ s=false):=hJ (by rw [HN.out,decide_eq_false (by omega)];rfl)
      go_wp2_with fail
      go_ret;exact ⟨by rw [HF.out];rfl,rfl⟩
theorem ref57_Valid {S:Blk} {x:Ifc} {a:Option Addr} {c:Nat} {w:World} (hs:Sl REnt S w a x.entries.length c x.entries) (hz:∀ e ∈ x.entries,szS e.scheme∧e.name.size≤281474976710656∧e.scheme.params.length≤1000000) (hmz:x.module_.size≤281474976710656) :
 Calls Tryz.prog 20 #[.agg #[.string x.module_,.slice a x.entries.length c]] w fun e w'=>e= .returned (.bool (kAL x))∧Below w.heap.size w w':=by
 have hm:=hs.small;have HZ:=hJ hz;have H:=hJ hs;clear hz hs;generalize hl1:x.entries.length=n at *;have HL:=hJ hl1;clear hl1;obtain ⟨B0,ya,hW0⟩:=box1 w 24 [.string x.module_,.slice a n c];have xa0:=box0 ya 0 _ rfl;have xa1:=box0 ya 1 _ rfl;clear ya;go_enter func20,ntmps20;cases hmn:kAZ x.module_ with
 | false =>
   have HF:Hid (kAL x=false):=hJ (by unfold kAL;rw [hmn];simp)
   go_wp2_with fail
   refine (kCJ _ _ hmz).mono ?_;rintro e _ ⟨rfl,rfl⟩
   go_wp2_with fail
   go_ret;exact ⟨by rw [HF.out];rfl,B0.out⟩
 | true =>
 by_cases h60:n≤60
 case neg =>
  have HF:Hid (kAL x=false):=hJ (by unfold kAL;rw [HL.out,decide_eq_false h60];simp);have h61:(60:Int)<(n:Int):=by omega
  go_wp2_with fail
  refine (kCJ _ _ hmz).mono ?_;rintro e _ ⟨rfl,rfl⟩
  go_wp2_with fail
  go_ret;exact ⟨by rw [HF.out];rfl,B0.out⟩
 have h61:¬((60:Int)<(n:Int)):=by omega
 go_wp2_with fail
 refine (kCJ _ _ hmz).mono ?_;rintro e _ ⟨rfl,rfl⟩
 go_wp2_with fail
 generalize (w.alloc (.cells #[.string x.module_,.slice a n c] 24))=W at *;have H0:=hJ (H.out.below B0.out)
 go_loopw [3] (fun i wr=>∃ k:Nat,k≤n∧i= .int .i64 k∧Hid (∀ j,j<k→entAt x.entries j=true)∧Below W.heap.size W wr) (fun i _=>n - (intOf i).toNat)
 case atStart=>exact ⟨0,Nat.zero_le _,rfl,fun j hj=>absurd hj (by omega),Below.refl _ _⟩
 case round =>
  obtain ⟨k,hk,rfl,HT,hB⟩:=hrel;have d0:=kAG xa0 _ hB;have d1:=kAG xa1 _ hB;by_cases hlt:k<n
  · obtain ⟨b,off,rfl,hbW,_⟩:=H0.out.form k hlt
    have HR:=hJ (H0.out.below hB);obtain ⟨_,_,_,hr,⟨⟨ap,cp,rfl,_⟩,⟨at_,ct,rfl,_⟩,⟨aq,cq,rfl,_⟩⟩,c0,c1,c2,c3,c4,c5⟩:=HR.out.ent k hlt;obtain ⟨_,e1,hr⟩:=hr;cases e1;have HK:Hid (k<x.entries.length):=hJ (by rw [HL.out];exact hlt);have HTK:Hid (entAt x.entries k=(kAZ (x.entries.getD k default).name && (kAH (x.entries.getD k default).scheme && (k==0 || slt (x.entries.getD (k - 1) default).name (x.entries.getD k default).name)))):=hJ rfl;have hzt:=HZ.out _ (kAJ HK.out);have HRd:=hJ hr;clear hr;generalize x.entries.getD k default=t at *;have hzn:=hzt.2.1;have HPs:=hJ hzt.2.2;have HZs:=hJ hzt.1;clear hzt
    go_wp2_with fail
    have hB2:Below W.heap.size W (wr.alloc (.cells #[.string t.name,.slice ap t.scheme.params.length cp,.string t.scheme.result.elem,.string t.scheme.result.shape.row,.slice at_ t.scheme.result.shape.dims.length ct,.slice aq t.scheme.wh.length cq] 64)):=hB.alloc hB.size _;have hb2:Below wr.heap.size wr (wr.alloc (.cells #[.string t.name,.slice ap t.scheme.params.length cp,.string t.scheme.result.elem,.string t.scheme.result.shape.row,.slice at_ t.scheme.result.shape.dims.length ct,.slice aq t.scheme.wh.length cq] 64)):=(Below.refl _ _).alloc (Nat.le_refl _) _;have hbx:=Bx.fresh wr 64 [.string t.name,.slice ap t.scheme.params.length cp,.string t.scheme.result.elem,.string t.scheme.result.shape.row,.slice at_ t.scheme.result.shape.dims.length ct,.slice aq t.scheme.wh.length cq];have v0:=hbx.cell 0 _ rfl;have v1:=hbx.cell 1 _ rfl;have v2:=hbx.cell 2 _ rfl;have v3:=hbx.cell 3 _ rfl;have v4:=hbx.cell 4 _ rfl;have v5:=hbx.cell 5 _ rfl;have hx1:=kAG xa1 _ hB2;have HRd:=hJ (RSch.below HRd.out hb2);clear c0 c1 c2 c3 c4 c5 xa0 xa1 d0 d1 hbx hb2;generalize (wr.alloc (.cells #[.string t.name,.slice ap t.scheme.params.length cp,.string t.scheme.result.elem,.string t.scheme.result.shape.row,.slice at_ t.scheme.result.shape.dims.length ct,.slice aq t.scheme.wh.length cq] 64))=w2 at *;have HB2:=hJ hB2;clear hB hB2;have HC:=hJ (fun t9:Later w2=>kF4 (RSch.below HRd.out t9.b) HZs.out HPs.out);have v0:=Later.cell v0;have v1:=Later.cell v1;have v2:=Later.cell v2;have v3:=Later.cell v3;have v4:=Later.cell v4;have v5:=Later.cell v5;have hx1:=Later.cell hx1;cases hnm:kAZ t.name with
    | false =>
      have HF:Hid (kAL x=false):=hJ (kDM HK.out (by rw [HTK.out,hnm];rfl));refine kAA (by kernel_rfl) (by kernel_rfl) ?_
      repeat (go_big_quiet_step (first | fail | exact Later.same (kCJ _ _ hzn) | exact Later.call (HC.out _)))
      refine wpQuiet_nil ?_;rintro _ ⟨t9,rfl⟩
      go_wp2_with fail
      go_ret;exact ⟨by rw [HF.out];rfl,B0.out.trans ((HB2.out.trans (t9.b.mono HB2.out.size)).mono B0.out.size)⟩
    | true =>
      cases hv:kAH t.scheme with
      | false =>
        have HF:Hid (kAL x=false):=hJ (kDM HK.out (by rw [HTK.out,hnm,hv];rfl));refine kAA (by kernel_rfl) (by kernel_rfl) ?_
        repeat (go_big_quiet_step (first | fail | exact Later.same (kCJ _ _ hzn) | exact Later.call (HC.out _)))
        refine wpQuiet_nil ?_;rintro _ ⟨t9,rfl⟩
        go_wp2_with fail
        go_ret;exact ⟨by rw [HF.out];rfl,B0.out.trans ((HB2.out.trans (t9.b.mono HB2.out.size)).mono B0.out.size)⟩
      | true =>
        cases k with
        | zero =>
          have HO:Hid (entAt x.entries 0=true):=hJ (by rw [HTK.out,hnm,hv];rfl);refine kAA (by kernel_rfl) (by kernel_rfl) ?_
          repeat (go_big_quiet_step (first | fail | exact Later.same (kCJ _ _ hzn) | exact Later.call (HC.out _)))
          refine wpQuiet_nil ?_;rintro _ ⟨t9,rfl⟩
          go_wp2_with fail
          go_roundw
          case rel=>exact ⟨1,by omega,by go_num,hJ (fun j hj=>(by omega:j=0) ▸ HO.out),HB2.out.trans (t9.b.mono HB2.out.size)⟩
          case measure=>simp [intOf];omega
        | succ k =>
          obtain ⟨_,_,_,_,_,hp,_⟩:=(H0.out.below HB2.out).ent k (by omega);have hp:=Later.cell hp;have hk0:(0:Int)<((k+1:Nat):Int):=by omega
          have hki:(((k+1:Nat):Int) - 1)=(k:Int):=by omega
          simp only [Nat.add_sub_cancel] at HTK;generalize x.entries.getD k default=p at *;by_cases ho:Op.bytesLess p.name.toList t.name.toList=true
          · have HO:Hid (entAt x.entries (k+1)=true):=hJ (by rw [HTK.out,hnm,hv];simpa [slt] using ho)
            refine kAA (by kernel_rfl) (by kernel_rfl) ?_
            repeat (go_big_quiet_step (first | fail | exact Later.same (kCJ _ _ hzn) | exact Later.call (HC.out _)))
            refine wpQuiet_nil ?_;rintro _ ⟨t9,rfl⟩
            go_wp2_with fail
            go_roundw
            case rel=>exact ⟨k+1+1,by omega,by go_num,hJ (upto HT.out HO.out),HB2.out.trans (t9.b.mono HB2.out.size)⟩
            case measure=>simp [intOf];omega
          · have ho:Op.bytesLess p.name.toList t.name.toList=false:=by simpa using ho
            have HF:Hid (kAL x=false):=hJ (kDM HK.out (by rw [HTK.out,hnm,hv];simpa [slt] using ho));refine kAA (by kernel_rfl) (by kernel_rfl) ?_
            repeat (go_big_quiet_step (first | fail | exact Later.same (kCJ _ _ hzn) | exact Later.call (HC.out _)))
            refine wpQuiet_nil ?_;rintro _ ⟨t9,rfl⟩
            go_wp2_with fail
            go_ret;exact ⟨by rw [HF.out];rfl,B0.out.trans ((HB2.out.trans (t9.b.mono HB2.out.size)).mono B0.out.size)⟩
  · obtain rfl:k=n:=by omega
    have HF:Hid (kAL x=true):=hJ (by rw [kJH (fun j hj=>HT.out j (by rw [HL.out] at hj;exact hj)),HL.out,hmn,decide_eq_true h60];rfl);have hx0:=kAG xa0 _ hB;have hx1:=kAG xa1 _ hB
    go_wp2_with fail
    go_ret;exact ⟨by rw [HF.out];rfl,B0.out.trans (hB.mono B0.out.size)⟩
theorem ref57_line {S:Blk} {x:Ent} {cs:List Value} {w:World} (h:REnt.rd S w cs x) (hz:tame x) (hpn:x.scheme.params.length≤1000000) :
 Calls Tryz.prog 21 #[.agg cs.toArray] w fun e w'=>e= .returned (.string (kBN x++⟨#[10]⟩))∧Below w.heap.size w w':=by
 obtain ⟨_,rfl,p,t,q,rfl,⟨ap,cp,rfl,hp⟩,⟨at_,ct,rfl,ht⟩,⟨aq,cq,rfl,hq⟩⟩:=h
 have HX:Hid (∀ W,Below w.heap.size w W→Calls Tryz.prog 47 #[.agg #[.slice ap x.scheme.params.length cp,.string x.scheme.result.elem,.string x.scheme.result.shape.row,.slice at_ x.scheme.result.shape.dims.length ct,.slice aq x.scheme.wh.length cq]] W fun e w'=>e= .returned (.tuple #[.string (kCG x.scheme),.int .i64 (kB6 (kAH x.scheme))])∧Below W.heap.size W w') :=
  hJ (fun W hW=>kF5 (cs:=[.slice ap x.scheme.params.length cp,.string x.scheme.result.elem,.string x.scheme.result.shape.row,.slice at_ x.scheme.result.shape.dims.length ct,.slice aq x.scheme.wh.length cq]) ⟨_,_,_,rfl,⟨ap,cp,rfl,hp.below hW⟩,⟨at_,ct,rfl,ht.below hW⟩,⟨aq,cq,rfl,hq.below hW⟩⟩ hz.1 hpn)
 have hnz:=hz.2;have hsz:=kI7 hz.1;have HL:Hid (kBN x=(x.name++⟨#[58,32]⟩)++kCG x.scheme):=hJ rfl;clear hp ht hq hz hpn;obtain ⟨B0,ya,hW0⟩:=box1 w 64 [.string x.name,.slice ap x.scheme.params.length cp,.string x.scheme.result.elem,.string x.scheme.result.shape.row,.slice at_ x.scheme.result.shape.dims.length ct,.slice aq x.scheme.wh.length cq];have xa0:=box0 ya 0 _ rfl;have xa1:=box0 ya 1 _ rfl;have xa2:=box0 ya 2 _ rfl;have xa3:=box0 ya 3 _ rfl;have xa4:=box0 ya 4 _ rfl;have xa5:=box0 ya 5 _ rfl;clear ya;have HC:=hJ (HX.out _ B0.out);generalize kCG x.scheme=d at *;generalize kB6 (kAH x.scheme)=ev at *;have h1:(x.name++(⟨#[58,32]⟩:Str)).size≤100002:=by rw [ByteArray.size_append];show _+2≤_;omega
 have h2:((x.name++(⟨#[58,32]⟩:Str))++d).size≤3200000:=by rw [ByteArray.size_append];omega
 go_enter func21,ntmps21
 go_wp2_with fail
 refine (HC.out).mono ?_;rintro e w1 ⟨rfl,hb⟩;have g0:=kAG xa0 _ hb
 go_wp2_with fail
 go_ret;exact ⟨by rw [HL.out];rfl,B0.out.trans (hb.mono B0.out.size)⟩
def lineN (i:Ifc) (k:Nat):Str:=kAO (capI i.module_ :: (i.entries.take k).map kBN) ⟨#[10]⟩++⟨#[10]⟩
theorem lineN_next {i:Ifc} {k:Nat} (hk:k<i.entries.length):lineN i (k+1)=lineN i k++(kBN (i.entries.getD k default)++⟨#[10]⟩):=by
 unfold lineN;rw [kBU kBN hk,← List.cons_append,kGF (by simp)];simp only [ByteArray.append_assoc]
theorem lineN_end (i:Ifc):lineN i i.entries.length=kC0 i:=by
 unfold lineN kC0;rw [List.take_length,kGF (by simp),kCT]
theorem lineN_size {i:Ifc} (hz:∀ e ∈ i.entries,tame e) (hm:i.module_.size≤100000) (hn:i.entries.length≤60) (k:Nat):(lineN i k).size≤300000000:=by
 unfold lineN
 have h1:=kC5 (M:=4000000) (capI i.module_ :: (i.entries.take k).map kBN) ⟨#[10]⟩ (fun y hy=>by
  rcases List.mem_cons.1 hy with rfl | hy
  · unfold capI;rw [ByteArray.size_append];show 10+_≤_;omega
  · obtain ⟨z,hz1,rfl⟩:=List.mem_map.1 hy
    exact lineE_size (hz z (List.mem_of_mem_take hz1)))
 rw [List.length_cons,List.length_map,List.length_take] at h1;rw [ByteArray.size_append]
 show _+1≤_
 have h2:(min k i.entries.length+1) * (4000000+(⟨#[10]⟩:Str).size)≤61 * 4000001:=Nat.mul_le_mul (by omega) (by decide);omega
theorem kI4 {S:Blk} {x:Ifc} {a:Option Addr} {c:Nat} {w:World} (hs:Sl REnt S w a x.entries.length c x.entries) (hz:∀ e ∈ x.entries,tame e∧e.scheme.params.length≤1000000) (hmz:x.module_.size≤100000) :
 Calls Tryz.prog 8 #[.agg #[.string x.module_,.slice a x.entries.length c]] w fun e w'=>e= .returned (.tuple #[.string (kB3 x),.int .i64 (kB6 (kAL x))])∧Below w.heap.size w w':=by
 have hm:=hs.small;have HV:Hid (∀ W,Below w.heap.size w W→Calls Tryz.prog 20 #[.agg #[.string x.module_,.slice a x.entries.length c]] W fun e w'=>e= .returned (.bool (kAL x))∧Below W.heap.size W w'):=hJ (fun W hW=>ref57_Valid (hs.below hW) (fun e he=>⟨(hz e he).1.1,Nat.le_trans (hz e he).1.2 (by decide),(hz e he).2⟩) (Nat.le_trans hmz (by decide)));have HZ:=hJ hz;have HS0:=hJ hs;clear hs hz;obtain ⟨B0,ya,hW0⟩:=box1 w 24 [.string x.module_,.slice a x.entries.length c];have xa0:=box0 ya 0 _ rfl;have xa1:=box0 ya 1 _ rfl;clear ya;have HC:=hJ (HV.out _ B0.out);cases hv:kAL x with
 | false =>
   have HF:Hid (kB3 x=⟨#[]⟩):=hJ (by unfold kB3;rw [hv];rfl);rw [hv] at HC;clear HV;go_enter func8,ntmps8
   go_wp2_with fail
   refine (HC.out).mono ?_;rintro e w1 ⟨rfl,hb⟩
   go_wp2_with fail
   go_returns
   exact ⟨by rw [HF.out];rfl,B0.out.trans (hb.mono B0.out.size)⟩
 | true =>
   have HF:Hid (kB3 x=lineN x x.entries.length):=hJ (by rw [lineN_end];unfold kB3;rw [if_pos hv])
   have hn:x.entries.length≤60:=by
    unfold kAL at hv;rw [Bool.and_eq_true,Bool.and_eq_true] at hv;exact of_decide_eq_true hv.2.2
   have HLz:=hJ (lineN_size (fun e he=>(HZ.out e he).1) hmz hn);have HL0:Hid (lineN x 0=((⟨#[105,110,116,101,114,102,97,99,101,32]⟩:Str)++x.module_)++⟨#[10]⟩):=hJ (by unfold lineN;rw [List.take_zero,List.map_nil,kBT];rfl);have h1:((⟨#[105,110,116,101,114,102,97,99,101,32]⟩:Str)++x.module_).size≤100010:=by rw [ByteArray.size_append];show 10+_≤_;omega
   rw [hv] at HC;clear HV hv;go_enter func8,ntmps8
   go_wp2_with fail
   refine (HC.out).mono ?_;rintro e w1 ⟨rfl,hb⟩;have HW1:Hid (Below w.heap.size w w1):=hJ (B0.out.trans (hb.mono B0.out.size));have HS:=hJ (HS0.out.below HW1.out);have g0:=kAG xa0 _ hb;have g1:=kAG xa1 _ hb;have hlw:w.heap.size<w1.heap.size:=kCR g1;clear xa0 xa1 hb HC HS0 B0 hW0
   go_wp2_with fail
   go_loopw [4,5] (fun o i wr=>∃ k:Nat,k≤x.entries.length∧i= .int .i64 k∧o= .string (lineN x k)∧Below w1.heap.size w1 wr) (fun _ i _=>x.entries.length - (intOf i).toNat)
   case atStart=>exact ⟨0,Nat.zero_le _,rfl,by rw [HL0.out],Below.refl _ _⟩
   case round =>
    obtain ⟨k,hk,rfl,rfl,hB⟩:=hrel;have r1:=kAG g1 _ hB;have hwr:=hB.size;have hlz:=HLz.out k;by_cases hlt:k<x.entries.length
    · obtain ⟨b,off,rfl,hbW,_⟩:=HS.out.form k hlt
      obtain ⟨_,_,_,hr,⟨⟨ap,cp,rfl,_⟩,⟨at_,ct,rfl,_⟩,⟨aq,cq,rfl,_⟩⟩,c0,c1,c2,c3,c4,c5⟩:=(HS.out.below hB).ent k hlt;have hzk:=HZ.out _ (kAJ hlt);have HPr:=hJ (ref57_line hr hzk.1 hzk.2);have HNx:=hJ (lineN_next hlt);have hez:=lineE_size hzk.1;have hez2:(kBN (x.entries.getD k default)++(⟨#[10]⟩:Str)).size≤4000001:=by rw [ByteArray.size_append];show _+1≤_;omega
      clear hr hzk hez;generalize x.entries.getD k default=y at *;generalize kBN y++(⟨#[10]⟩:Str)=d at *;generalize lineN x k=o at *
      go_wp2_with fail
      refine HPr.out.mono ?_;rintro e w5 ⟨rfl,hb5⟩
      go_wp2_with fail
      go_roundw
      case rel=>exact ⟨k+1,by omega,by go_num,by rw [HNx.out],hB.trans (hb5.mono hwr)⟩
      case measure=>simp [intOf];omega
    · obtain rfl:k=x.entries.length:=by omega
      go_wp2_with fail
      go_returns
      exact ⟨by rw [HF.out];rfl,HW1.out.trans (hB.mono HW1.out.size)⟩
theorem kHE {s:Str} {t:Sch} (h:kDY s=some t) (hs:s.size≤10000) (w:World) :
 Calls Tryz.prog 30 #[.string s] w fun e w'=>(∃ ds,e= .returned (.tuple #[.agg ds.toArray,.int .i64 0])∧RSch.rd (fun k=>w.heap.size≤k) w' ds t)∧Below w.heap.size w w':=by
 have:=kF6 s hs w;rw [h] at this;exact this
theorem kHF {s:Str} (h:kDY s=none) (hs:s.size≤10000) (w:World) :
 Calls Tryz.prog 30 #[.string s] w fun e w'=>(∃ ds,e= .returned (.tuple #[.agg ds.toArray,.int .i64 6])∧RSch.rd (fun k=>w.heap.size≤k) w' ds kA8)∧Below w.heap.size w w':=by
 have:=kF6 s hs w;rw [h] at this;exact this
theorem befL_size (s p:Str):(befL s p).size≤s.size:=by
 unfold befL
 split
 · rw [ByteArray.size_extract];omega
 · exact Nat.zero_le _
theorem kKM (s p:Str) (hp:0<p.size):(befR s p).size≤s.size∧(0<s.size→(befR s p).size<s.size):=by
 unfold befR
 split
 · rw [ByteArray.size_extract];omega
 · exact ⟨Nat.zero_le _,fun h=>h⟩
theorem goIR_step (g:Nat) (r:Str) (acc:List Ent) (hr:r.size≠0):goIR (g+1) r acc=match kDY (befR (befL r nlS) colS) with | none=>none | some y=>if befB r nlS && befB (befL r nlS) colS then goIR g (befR r nlS) (acc++[⟨befL (befL r nlS) colS,y⟩]) else none:=by
 show (if r.size=0 then _ else _)=_
 rw [if_neg hr];first | done | rfl
theorem goIR_end (g:Nat) (r:Str) (acc:List Ent) (hr:r.size=0):goIR (g+1) r acc=some acc:=by
 show (if r.size=0 then _ else _)=_
 rw [if_pos hr]
theorem ref57_Parse (s:Str) (hs:s.size≤10000) (w:World) :
 Calls Tryz.prog 14 #[.string s] w fun e w'=>(∃ a c,e= .returned (.tuple #[.agg #[.string (optI (kD8 s)).module_,.slice a (optI (kD8 s)).entries.length c],.int .i64 (optE (kD8 s))])∧Sl REnt (fun k=>w.heap.size≤k) w' a (optI (kD8 s)).entries.length c (optI (kD8 s)).entries)∧Below w.heap.size w w':=by
 have HR:Hid (kD8 s=if befB s nlS && (befB (befL s nlS) capS && (befL (befL s nlS) capS).toList.isEmpty) then (match goIR (s.size+1) (befR s nlS) [] with | none=>none | some es=>okIfc s ⟨befR (befL s nlS) capS,es⟩) else none):=hJ (by rw [← readIR_eq];rfl);have HC1:=hJ (fun W=>kFI s nlS (by omega) (by decide) (by decide) W);have h1:=befL_size s nlS;have h2:=(kKM s nlS (by decide)).1;have HC2:=hJ (fun W=>kFI (befL s nlS) capS (by omega) (by decide) (by decide) W);have h3:=(kKM (befL s nlS) capS (by decide)).1;have hmz:(befR (befL s nlS) capS).size≤100000:=by omega
 generalize kD8 s=res at *;generalize befR (befL s nlS) capS=nm at *;generalize befL (befL s nlS) capS=nn at *;generalize befB (befL s nlS) capS=b2 at *;generalize befL s nlS=hd at *;generalize befR s nlS=rs at *;generalize befB s nlS=b1 at *;have HRb:=hJ (Bx.fresh w 24 [.string ⟨#[]⟩,.slice none 0 0]);have HB0:=hJ ((Below.refl _ w).alloc (Nat.le_refl _) (.cells #[.string ⟨#[]⟩,.slice none 0 0] 24));go_enter func14,ntmps14
 go_wp2_with fail
 generalize w.alloc (.cells #[.string ⟨#[]⟩,.slice none 0 0] 24)=W0 at *;refine (HC1.out _).mono ?_;rintro e W1 ⟨rfl,hb1⟩;have HRs:=hJ (HRb.out.below hb1 HRb.out.lt);have HBl:=hJ (HB0.out.trans (hb1.mono HB0.out.size));clear HC1 HRb HB0 hb1
 go_wp2_with fail
 refine (HC2.out _).mono ?_;rintro e W9 ⟨rfl,hb1⟩;replace HRs:=hJ (HRs.out.below hb1 HRs.out.lt);replace HBl:=hJ (HBl.out.trans (hb1.mono HBl.out.size));clear HC2 hb1;by_cases hok:(b1 && (b2 && nn.toList.isEmpty))=true
 · replace HR:Hid (res=match goIR (s.size+1) rs [] with | none=>none | some es=>okIfc s ⟨nm,es⟩):=hJ (by rw [HR.out,if_pos hok])
   rw [Bool.and_eq_true,Bool.and_eq_true] at hok;obtain ⟨rfl,rfl,ok3⟩:=hok;have HBX:=hJ (Bx.fresh W9 24 [.string nm,.slice none 0 0]);have hgw:w.heap.size<W9.heap.size:=HRs.out.lt;replace HRs:=hJ (HRs.out.alloc (.cells #[.string nm,.slice none 0 0] 24));replace HBl:=hJ (HBl.out.alloc HBl.out.size (.cells #[.string nm,.slice none 0 0] 24));obtain ⟨tot,hto⟩:∃ tot,tot=goIR (s.size+1) rs []:=⟨_,rfl⟩
   rw [← hto] at HR;have HTo:=hJ hto.symm;have HR2:Hid (tot=none→res=none):=hJ (fun h=>by rw [HR.out,h]);clear hto
   go_wp2_with fail
   generalize hg:W9.heap.size=g at *;generalize W9.alloc (.cells #[.string nm,.slice none 0 0] 24)=W at *;clear hg W9;have hgW:=HBX.out.lt
   go_loopg [6] (s.size+1) (fun gk v6 wr=>∃ (r:Str) (es:List Ent) (qa:Option Addr) (qm qc:Nat),v6= .string r∧r.size<gk∧es.length+r.size≤s.size∧W.heap.size≤wr.heap.size∧Hid (goIR gk r es=tot)∧Hid (∀ e ∈ es,kAH e.scheme=true∧e.name.size≤100000)∧Hid (Bx wr g 24 [.string nm,.slice qa qm qc])∧Hid (Own REnt 64 (fun q=>W.heap.size≤q) wr W.heap.size (.slice qa qm qc) es)∧Hid (Bx wr w.heap.size 24 [.string ⟨#[]⟩,.slice none 0 0])∧Hid (Below w.heap.size w wr))
   case atStart=>exact ⟨rs,[],none,0,0,rfl,by omega,by show 0+_≤_;omega,Nat.le_refl _,HTo,hJ (fun t ht=>by cases ht),HBX,hJ (Own.nil _ _ _ _ _),HRs,HBl⟩
   case round =>
    clear HBX HRs HBl HTo;obtain ⟨r,es,qa,qm,qc,rfl,hrg,hel,hwz,HRun,HV,HBX,HOwn,HRs,HBl⟩:=hrel;obtain ⟨gk,rfl⟩:∃ g,gk=g+1:=⟨gk - 1,by omega⟩
    cases hre:r.toList.isEmpty with
    | true =>
      have hr0:r.size=0:=by rw [kDV hre];rfl
      have HTot:Hid (tot=some es):=hJ (by rw [← HRun.out,goIR_end _ _ _ hr0]);obtain ⟨a9,c9,e9,hsl⟩:=HOwn.out.sl;rw [Value.slice.injEq] at e9;obtain ⟨rfl,rfl,rfl⟩:=e9;have HSe:=hJ (hsl.mono (S':=fun q=>g<q) (fun q hq _=>by rcases hq with q | q <;> omega));have HR3:Hid (res=if kAL ⟨nm,es⟩ && (kC0 ⟨nm,es⟩).toList==s.toList then some ⟨nm,es⟩ else none):=hJ (by rw [HR.out,HTot.out];rfl);have HCv:Hid (Calls Tryz.prog 8 #[.agg #[.string nm,.slice qa es.length qc]] wr fun e w'=>e= .returned (.tuple #[.string (kB3 ⟨nm,es⟩),.int .i64 (kB6 (kAL ⟨nm,es⟩))])∧Below wr.heap.size wr w'):=hJ (kI4 (x:=⟨nm,es⟩) HSe.out (fun e he=>⟨⟨schT_sz (HV.out e he).1,(HV.out e he).2⟩,by have:=(kA1 (HV.out e he).1).1;omega⟩) hmz);have v0:=HBX.out.cell 0 _ rfl;have v1:=HBX.out.cell 1 _ rfl;have hgr:=HBX.out.lt;clear HOwn hsl HRun HR HR2;cases hv:kAL ⟨nm,es⟩ with
      | false =>
        have HF:Hid (res=none):=hJ (by rw [HR3.out,hv];rfl);have HVe:Hid (kB6 (kAL ⟨nm,es⟩)=1):=hJ (by rw [hv];rfl);rw [HVe.out] at HCv;generalize kB3 ⟨nm,es⟩=o at *;clear HR3
        go_wp2_with fail
        refine (HCv.out).mono ?_;rintro e w1 ⟨rfl,hb⟩;replace HRs:=hJ (HRs.out.below hb HRs.out.lt);replace HBl:=hJ (HBl.out.trans (hb.mono HBl.out.size));have z0:=HRs.out.cell 0 _ rfl;have z1:=HRs.out.cell 1 _ rfl;have f0:=HRs.out.fz 0;have f1:=HRs.out.fz 1;have hl0:=HRs.out.lt;have HZz:=hJ ((HRs.out.set 0 (.string ⟨#[]⟩)).set 1 (.slice none 0 0));have s0:=HZz.out.cell 0 _ rfl;have s1:=HZz.out.cell 1 _ rfl
        go_upto_region 17 with fail
        (try simp only []);repeat (first | go_values | go_skip | go_guarded | go_step | go_upon)
        refine bodyPost_ret (v:=.tuple #[.agg #[.string ⟨#[]⟩,.slice none 0 0],.int .i64 6]) (by simp [results,results14,go_sem,s0,s1,hl0]) rfl ?_;have HFr:Hid (∀ W,Sl REnt (fun k=>w.heap.size≤k) W none 0 0 kCV.entries):=hJ (fun W=>Sl.empty REnt _ _);exact ⟨⟨none,0,by rw [HF.out];rfl,by rw [HF.out];exact HFr.out _⟩,(HBl.out.setCell (Nat.le_refl _) _).setCell (Nat.le_refl _) _⟩
      | true =>
        have HVe:Hid (kB6 (kAL ⟨nm,es⟩)=0):=hJ (by rw [hv];rfl);have HPe:Hid (kB3 ⟨nm,es⟩=kC0 ⟨nm,es⟩):=hJ (by unfold kB3;rw [if_pos hv]);rw [HVe.out,HPe.out] at HCv;rw [hv] at HR3;generalize kC0 ⟨nm,es⟩=o at *
        go_wp2_with fail
        refine (HCv.out).mono ?_;rintro e w2 ⟨rfl,hb⟩;have HB2:=hJ hb;replace v0:=(hb.cell (by show g<_;omega)).trans v0;replace v1:=(hb.cell (by show g<_;omega)).trans v1;replace HRs:=hJ (HRs.out.below HB2.out HRs.out.lt);replace HBl:=hJ (HBl.out.trans (HB2.out.mono HBl.out.size));cases ho:(o.toList==s.toList) with
        | false =>
          have HF:Hid (res=none):=hJ (by rw [HR3.out,ho];rfl);have z0:=HRs.out.cell 0 _ rfl;have z1:=HRs.out.cell 1 _ rfl;have f0:=HRs.out.fz 0;have f1:=HRs.out.fz 1;have hl0:=HRs.out.lt;have HZz:=hJ ((HRs.out.set 0 (.string ⟨#[]⟩)).set 1 (.slice none 0 0));have s0:=HZz.out.cell 0 _ rfl;have s1:=HZz.out.cell 1 _ rfl
          go_upto_region 17 with fail
          (try simp only []);repeat (first | go_values | go_skip | go_guarded | go_step | go_upon)
          refine bodyPost_ret (v:=.tuple #[.agg #[.string ⟨#[]⟩,.slice none 0 0],.int .i64 6]) (by simp [results,results14,go_sem,s0,s1,hl0]) rfl ?_;have HFr:Hid (∀ W,Sl REnt (fun k=>w.heap.size≤k) W none 0 0 kCV.entries):=hJ (fun W=>Sl.empty REnt _ _);exact ⟨⟨none,0,by rw [HF.out];rfl,by rw [HF.out];exact HFr.out _⟩,(HBl.out.setCell (Nat.le_refl _) _).setCell (Nat.le_refl _) _⟩
        | true =>
          have HF:Hid (res=some ⟨nm,es⟩):=hJ (by rw [HR3.out,ho];rfl);have z0:=HRs.out.cell 0 _ rfl;have z1:=HRs.out.cell 1 _ rfl;have f0:=HRs.out.fz 0;have f1:=HRs.out.fz 1;have hl0:=HRs.out.lt
          go_upto_region 18 with fail
          (try simp only []);repeat (first | go_values | go_skip | go_guarded | go_step | go_upon)
          have HZz:=hJ ((HRs.out.set 0 (.string nm)).set 1 (.slice qa es.length qc));have s0:=HZz.out.cell 0 _ rfl;have s1:=HZz.out.cell 1 _ rfl;refine bodyPost_ret (v:=.tuple #[.agg #[.string nm,.slice qa es.length qc],.int .i64 0]) (by simp [results,results14,go_sem,s0,s1,hl0]) rfl ?_;exact ⟨⟨qa,qc,by rw [HF.out];rfl,by rw [HF.out];exact (((HSe.out.below HB2.out).frame (fun q hq _=>kAB (a:=⟨w.heap.size,0,none⟩) (by show w.heap.size≠q;omega))).frame (fun q hq _=>kAB (a:=⟨w.heap.size,1,none⟩) (by show w.heap.size≠q;omega))).mono (fun q hq _=>by show w.heap.size≤q;omega)⟩,(HBl.out.setCell (Nat.le_refl _) _).setCell (Nat.le_refl _) _⟩
    | false =>
      have hr0:=kDC hre;replace HRun:Hid ((match kDY (befR (befL r nlS) colS) with | none=>none | some y=>if befB r nlS && befB (befL r nlS) colS then goIR gk (befR r nlS) (es++[⟨befL (befL r nlS) colS,y⟩]) else none)=tot):=hJ (by rw [← HRun.out,goIR_step _ _ _ (by omega)]);have k1:=befL_size r nlS;have k2:=(kKM r nlS (by decide)).2 hr0;have k3:=befL_size (befL r nlS) colS;have k4:=(kKM (befL r nlS) colS (by decide)).1;have HCa:=hJ (kFI r nlS (by omega) (by decide) (by decide) wr);have HCb:=hJ (fun W=>kFI (befL r nlS) colS (by omega) (by decide) (by decide) W);generalize befL (befL r nlS) colS=xn at *;generalize befR (befL r nlS) colS=xs at *;generalize befB (befL r nlS) colS=c2 at *;generalize befL r nlS=xl at *;generalize befR r nlS=r2 at *;generalize befB r nlS=c1 at *;have hxn:xn.size≤100000:=by omega
      have hxs:xs.size≤10000:=by omega
      have HSh:Hid (r2.size<r.size):=hJ k2;clear k1 k2 k3 k4
      go_wp2_with fail
      refine HCa.out.mono ?_;rintro e wr2 ⟨rfl,hbc⟩;replace HBX:=hJ (HBX.out.below hbc HBX.out.lt);replace HOwn:=hJ (HOwn.out.below hbc);replace HRs:=hJ (HRs.out.below hbc HRs.out.lt);replace HBl:=hJ (HBl.out.trans (hbc.mono HBl.out.size));have hzc:=hbc.size;clear hbc
      go_wp2_with fail
      refine (HCb.out _).mono ?_;rintro e wr3 ⟨rfl,hbc⟩;replace HBX:=hJ (HBX.out.below hbc HBX.out.lt);replace HOwn:=hJ (HOwn.out.below hbc);replace HRs:=hJ (HRs.out.below hbc HRs.out.lt);replace HBl:=hJ (HBl.out.trans (hbc.mono HBl.out.size));have hzd:=hbc.size;clear hbc;clear HCa HCb;cases hrx:kDY xs with
      | none =>
        have HC:=hJ (kHF hrx hxs wr3);have HF:Hid (res=none):=hJ (HR2.out (by rw [← HRun.out,hrx]));clear HRun hrx
        go_wp2_with fail
        refine HC.out.mono ?_;rintro e w4 ⟨⟨ds,rfl,p,t,q,rfl,⟨ap,cp,rfl,hp⟩,⟨at_,ct,rfl,ht⟩,⟨aq,cq,rfl,hq⟩⟩,hb4⟩;have hz4:=hb4.size;have HT:=hJ (Bx.fresh w4 57 [.slice ap (kA8).params.length cp,.string (kA8).result.elem,.string (kA8).result.shape.row,.slice at_ (kA8).result.shape.dims.length ct,.slice aq (kA8).wh.length cq]);have t0:=HT.out.cell 0 _ rfl;have t1:=HT.out.cell 1 _ rfl;have t2:=HT.out.cell 2 _ rfl;have t3:=HT.out.cell 3 _ rfl;have t4:=HT.out.cell 4 _ rfl;have hal:=(Below.refl w4.heap.size w4).alloc (Nat.le_refl _) (.cells #[.slice ap (kA8).params.length cp,.string (kA8).result.elem,.string (kA8).result.shape.row,.slice at_ (kA8).result.shape.dims.length ct,.slice aq (kA8).wh.length cq] 57);have HYr:Hid (RSch.rd (fun k=>wr3.heap.size≤k) (w4.alloc (.cells #[.slice ap (kA8).params.length cp,.string (kA8).result.elem,.string (kA8).result.shape.row,.slice at_ (kA8).result.shape.dims.length ct,.slice aq (kA8).wh.length cq] 57)) [.slice ap (kA8).params.length cp,.string (kA8).result.elem,.string (kA8).result.shape.row,.slice at_ (kA8).result.shape.dims.length ct,.slice aq (kA8).wh.length cq] (kA8)):=hJ ⟨_,_,_,rfl,⟨ap,cp,rfl,hp.below hal⟩,⟨at_,ct,rfl,ht.below hal⟩,⟨aq,cq,rfl,hq.below hal⟩⟩;have HB5:=hJ (hb4.alloc hz4 (.cells #[.slice ap (kA8).params.length cp,.string (kA8).result.elem,.string (kA8).result.shape.row,.slice at_ (kA8).result.shape.dims.length ct,.slice aq (kA8).wh.length cq] 57));have HOld:=HOwn;replace HBX:=hJ (HBX.out.below HB5.out HBX.out.lt);replace HOwn:=hJ (HOwn.out.below HB5.out);replace HRs:=hJ (HRs.out.below HB5.out HRs.out.lt);replace HBl:=hJ (HBl.out.trans (HB5.out.mono HBl.out.size));clear hb4 hp ht hq hal HC;clear t0 t1 t2 t3 t4 HT HYr;cases c1 with
        | false =>
          have z0:=HRs.out.cell 0 _ rfl;have z1:=HRs.out.cell 1 _ rfl;have f0:=HRs.out.fz 0;have f1:=HRs.out.fz 1;have hl0:=HRs.out.lt;have HZz:=hJ ((HRs.out.set 0 (.string ⟨#[]⟩)).set 1 (.slice none 0 0));have s0:=HZz.out.cell 0 _ rfl;have s1:=HZz.out.cell 1 _ rfl
          go_upto_region 12 with fail
          (try simp only []);repeat (first | go_values | go_skip | go_guarded | go_step | go_upon)
          refine bodyPost_ret (v:=.tuple #[.agg #[.string ⟨#[]⟩,.slice none 0 0],.int .i64 6]) (by simp [results,results14,go_sem,s0,s1,hl0]) rfl ?_;have HFr:Hid (∀ W,Sl REnt (fun k=>w.heap.size≤k) W none 0 0 kCV.entries):=hJ (fun W=>Sl.empty REnt _ _);exact ⟨⟨none,0,by rw [HF.out];rfl,by rw [HF.out];exact HFr.out _⟩,(HBl.out.setCell (Nat.le_refl _) _).setCell (Nat.le_refl _) _⟩
        | true =>
          cases c2 with
          | false =>
            have z0:=HRs.out.cell 0 _ rfl;have z1:=HRs.out.cell 1 _ rfl;have f0:=HRs.out.fz 0;have f1:=HRs.out.fz 1;have hl0:=HRs.out.lt;have HZz:=hJ ((HRs.out.set 0 (.string ⟨#[]⟩)).set 1 (.slice none 0 0));have s0:=HZz.out.cell 0 _ rfl;have s1:=HZz.out.cell 1 _ rfl
            go_upto_region 12 with fail
            (try simp only []);repeat (first | go_values | go_skip | go_guarded | go_step | go_upon)
            refine bodyPost_ret (v:=.tuple #[.agg #[.string ⟨#[]⟩,.slice none 0 0],.int .i64 6]) (by simp [results,results14,go_sem,s0,s1,hl0]) rfl ?_;have HFr:Hid (∀ W,Sl REnt (fun k=>w.heap.size≤k) W none 0 0 kCV.entries):=hJ (fun W=>Sl.empty REnt _ _);exact ⟨⟨none,0,by rw [HF.out];rfl,by rw [HF.out];exact HFr.out _⟩,(HBl.out.setCell (Nat.le_refl _) _).setCell (Nat.le_refl _) _⟩
          | true =>
            have z0:=HRs.out.cell 0 _ rfl;have z1:=HRs.out.cell 1 _ rfl;have f0:=HRs.out.fz 0;have f1:=HRs.out.fz 1;have hl0:=HRs.out.lt;have HZz:=hJ ((HRs.out.set 0 (.string ⟨#[]⟩)).set 1 (.slice none 0 0));have s0:=HZz.out.cell 0 _ rfl;have s1:=HZz.out.cell 1 _ rfl
            go_upto_region 12 with fail
            (try simp only []);repeat (first | go_values | go_skip | go_guarded | go_step | go_upon)
            refine bodyPost_ret (v:=.tuple #[.agg #[.string ⟨#[]⟩,.slice none 0 0],.int .i64 6]) (by simp [results,results14,go_sem,s0,s1,hl0]) rfl ?_;have HFr:Hid (∀ W,Sl REnt (fun k=>w.heap.size≤k) W none 0 0 kCV.entries):=hJ (fun W=>Sl.empty REnt _ _);exact ⟨⟨none,0,by rw [HF.out];rfl,by rw [HF.out];exact HFr.out _⟩,(HBl.out.setCell (Nat.le_refl _) _).setCell (Nat.le_refl _) _⟩
      | some y =>
        have HC:=hJ (kHE hrx hxs wr3);replace HRun:Hid ((if c1 && c2 then goIR gk r2 (es++[⟨xn,y⟩]) else none)=tot):=hJ (by rw [← HRun.out,hrx]);have hvy:=(kI6 hrx).1;clear hrx
        go_wp2_with fail
        refine HC.out.mono ?_;rintro e w4 ⟨⟨ds,rfl,p,t,q,rfl,⟨ap,cp,rfl,hp⟩,⟨at_,ct,rfl,ht⟩,⟨aq,cq,rfl,hq⟩⟩,hb4⟩;have hz4:=hb4.size;have HT:=hJ (Bx.fresh w4 57 [.slice ap (y).params.length cp,.string (y).result.elem,.string (y).result.shape.row,.slice at_ (y).result.shape.dims.length ct,.slice aq (y).wh.length cq]);have t0:=HT.out.cell 0 _ rfl;have t1:=HT.out.cell 1 _ rfl;have t2:=HT.out.cell 2 _ rfl;have t3:=HT.out.cell 3 _ rfl;have t4:=HT.out.cell 4 _ rfl;have hal:=(Below.refl w4.heap.size w4).alloc (Nat.le_refl _) (.cells #[.slice ap (y).params.length cp,.string (y).result.elem,.string (y).result.shape.row,.slice at_ (y).result.shape.dims.length ct,.slice aq (y).wh.length cq] 57);have HYr:Hid (RSch.rd (fun k=>wr3.heap.size≤k) (w4.alloc (.cells #[.slice ap (y).params.length cp,.string (y).result.elem,.string (y).result.shape.row,.slice at_ (y).result.shape.dims.length ct,.slice aq (y).wh.length cq] 57)) [.slice ap (y).params.length cp,.string (y).result.elem,.string (y).result.shape.row,.slice at_ (y).result.shape.dims.length ct,.slice aq (y).wh.length cq] (y)):=hJ ⟨_,_,_,rfl,⟨ap,cp,rfl,hp.below hal⟩,⟨at_,ct,rfl,ht.below hal⟩,⟨aq,cq,rfl,hq.below hal⟩⟩;have HB5:=hJ (hb4.alloc hz4 (.cells #[.slice ap (y).params.length cp,.string (y).result.elem,.string (y).result.shape.row,.slice at_ (y).result.shape.dims.length ct,.slice aq (y).wh.length cq] 57));have HOld:=HOwn;replace HBX:=hJ (HBX.out.below HB5.out HBX.out.lt);replace HOwn:=hJ (HOwn.out.below HB5.out);replace HRs:=hJ (HRs.out.below HB5.out HRs.out.lt);replace HBl:=hJ (HBl.out.trans (HB5.out.mono HBl.out.size));clear hb4 hp ht hq hal HC;cases c1 with
        | false =>
          have HF:Hid (res=none):=hJ (HR2.out (by rw [← HRun.out];rfl));clear HRun t0 t1 t2 t3 t4 HT HYr;have z0:=HRs.out.cell 0 _ rfl;have z1:=HRs.out.cell 1 _ rfl;have f0:=HRs.out.fz 0;have f1:=HRs.out.fz 1;have hl0:=HRs.out.lt;have HZz:=hJ ((HRs.out.set 0 (.string ⟨#[]⟩)).set 1 (.slice none 0 0));have s0:=HZz.out.cell 0 _ rfl;have s1:=HZz.out.cell 1 _ rfl
          go_upto_region 12 with fail
          (try simp only []);repeat (first | go_values | go_skip | go_guarded | go_step | go_upon)
          refine bodyPost_ret (v:=.tuple #[.agg #[.string ⟨#[]⟩,.slice none 0 0],.int .i64 6]) (by simp [results,results14,go_sem,s0,s1,hl0]) rfl ?_;have HFr:Hid (∀ W,Sl REnt (fun k=>w.heap.size≤k) W none 0 0 kCV.entries):=hJ (fun W=>Sl.empty REnt _ _);exact ⟨⟨none,0,by rw [HF.out];rfl,by rw [HF.out];exact HFr.out _⟩,(HBl.out.setCell (Nat.le_refl _) _).setCell (Nat.le_refl _) _⟩
        | true =>
          cases c2 with
          | false =>
            have HF:Hid (res=none):=hJ (HR2.out (by rw [← HRun.out];rfl));clear HRun t0 t1 t2 t3 t4 HT HYr;have z0:=HRs.out.cell 0 _ rfl;have z1:=HRs.out.cell 1 _ rfl;have f0:=HRs.out.fz 0;have f1:=HRs.out.fz 1;have hl0:=HRs.out.lt;have HZz:=hJ ((HRs.out.set 0 (.string ⟨#[]⟩)).set 1 (.slice none 0 0));have s0:=HZz.out.cell 0 _ rfl;have s1:=HZz.out.cell 1 _ rfl
            go_upto_region 12 with fail
            (try simp only []);repeat (first | go_values | go_skip | go_guarded | go_step | go_upon)
            refine bodyPost_ret (v:=.tuple #[.agg #[.string ⟨#[]⟩,.slice none 0 0],.int .i64 6]) (by simp [results,results14,go_sem,s0,s1,hl0]) rfl ?_;have HFr:Hid (∀ W,Sl REnt (fun k=>w.heap.size≤k) W none 0 0 kCV.entries):=hJ (fun W=>Sl.empty REnt _ _);exact ⟨⟨none,0,by rw [HF.out];rfl,by rw [HF.out];exact HFr.out _⟩,(HBl.out.setCell (Nat.le_refl _) _).setCell (Nat.le_refl _) _⟩
          | true =>
            have HNx:Hid (goIR gk r2 (es++[⟨xn,y⟩])=tot):=hJ (by rw [← HRun.out];rfl);have v1:=HBX.out.cell 1 _ rfl;have fv1:=HBX.out.fz 1;clear HRun
            go_wp2_with (at_builtin;refine kA4 elemEnt2 rfl _ _ rfl W.heap.size _ _ rfl (HOwn.out.alloc _) _ (⟨xn,y⟩:Ent) [.string xn,.slice ap y.params.length cp,.string y.result.elem,.string y.result.shape.row,.slice at_ y.result.shape.dims.length ct,.slice aq y.wh.length cq] rfl ⟨_,rfl,RSch.mono (RSch.below HYr.out ((Below.refl _ _).alloc (Nat.le_refl _) _)) (fun q hq _=>⟨by omega,fun e=>by have:=(HOld.out.block e).2;omega⟩)⟩ (kA6 64 (by (simp only [kAK,kAI,Array.getElem?_push,Array.size_push];simp))) (by omega) (by unfold maxLen;omega) (by simp;omega) ?_;intro v9 w9 hown9 hb9 hk9;obtain ⟨a9,m9,c9,rfl⟩:=hown9.shape;have HX9:=hJ ((HBX.out.alloc _).kp hk9 (HOwn.out.ne (by omega)));have HR9:=hJ ((HRs.out.alloc _).kp hk9 (HOwn.out.ne (by omega)));have z9:=HX9.out.cell 1 _ rfl;have f9:=HX9.out.fz 1;have hz9:=hb9.size)
            go_roundg gk
            case measure=>have:=HSh.out;omega
            case rel=>exact ⟨r2,es++[⟨xn,y⟩],a9,m9,c9,rfl,by have:=HSh.out;omega,by have:=HSh.out;rw [List.length_append];show es.length+1+_≤_;omega,by have:=hz9;simp at this ⊢;omega,HNx,hJ (fun d hd=>(List.mem_append.mp hd).elim (HV.out d) (fun q=>by rw [List.mem_singleton.mp q];exact ⟨hvy,hxn⟩)),hJ (HX9.out.set 1 _),hJ (hown9.set _ (fun q hq=>by show q≠g;omega) (by show g<_;omega)),hJ (HR9.out.other (by show g≠_;omega)),hJ (((HBl.out.alloc HBl.out.size _).trans (hb9.mono (by omega))).setCell (by show _≤g;omega) _)⟩
 · have HF:Hid (res=none):=hJ (by rw [HR.out,if_neg hok])
   clear HR;cases b1 with
   | false =>
     clear hok;have z0:=HRs.out.cell 0 _ rfl;have z1:=HRs.out.cell 1 _ rfl;have f0:=HRs.out.fz 0;have f1:=HRs.out.fz 1;have hl0:=HRs.out.lt;have HZz:=hJ ((HRs.out.set 0 (.string ⟨#[]⟩)).set 1 (.slice none 0 0));have s0:=HZz.out.cell 0 _ rfl;have s1:=HZz.out.cell 1 _ rfl
     go_upto_region 5 with fail
     (try simp only []);repeat (first | go_values | go_skip | go_guarded | go_step | go_upon)
     refine bodyPost_ret (v:=.tuple #[.agg #[.string ⟨#[]⟩,.slice none 0 0],.int .i64 6]) (by simp [results,results14,go_sem,s0,s1,hl0]) rfl ?_;have HFr:Hid (∀ W,Sl REnt (fun k=>w.heap.size≤k) W none 0 0 kCV.entries):=hJ (fun W=>Sl.empty REnt _ _);exact ⟨⟨none,0,by rw [HF.out];rfl,by rw [HF.out];exact HFr.out _⟩,(HBl.out.setCell (Nat.le_refl _) _).setCell (Nat.le_refl _) _⟩
   | true =>
     cases b2 with
     | false =>
       clear hok;have z0:=HRs.out.cell 0 _ rfl;have z1:=HRs.out.cell 1 _ rfl;have f0:=HRs.out.fz 0;have f1:=HRs.out.fz 1;have hl0:=HRs.out.lt;have HZz:=hJ ((HRs.out.set 0 (.string ⟨#[]⟩)).set 1 (.slice none 0 0));have s0:=HZz.out.cell 0 _ rfl;have s1:=HZz.out.cell 1 _ rfl
       go_upto_region 5 with fail
       (try simp only []);repeat (first | go_values | go_skip | go_guarded | go_step | go_upon)
       refine bodyPost_ret (v:=.tuple #[.agg #[.string ⟨#[]⟩,.slice none 0 0],.int .i64 6]) (by simp [results,results14,go_sem,s0,s1,hl0]) rfl ?_;have HFr:Hid (∀ W,Sl REnt (fun k=>w.heap.size≤k) W none 0 0 kCV.entries):=hJ (fun W=>Sl.empty REnt _ _);exact ⟨⟨none,0,by rw [HF.out];rfl,by rw [HF.out];exact HFr.out _⟩,(HBl.out.setCell (Nat.le_refl _) _).setCell (Nat.le_refl _) _⟩
     | true =>
       have hnn:nn.toList.isEmpty=false:=by
        cases hq:nn.toList.isEmpty with
        | false=>rfl
        | true=>exact absurd (by rw [hq];rfl) hok
       clear hok;have z0:=HRs.out.cell 0 _ rfl;have z1:=HRs.out.cell 1 _ rfl;have f0:=HRs.out.fz 0;have f1:=HRs.out.fz 1;have hl0:=HRs.out.lt;have HZz:=hJ ((HRs.out.set 0 (.string ⟨#[]⟩)).set 1 (.slice none 0 0));have s0:=HZz.out.cell 0 _ rfl;have s1:=HZz.out.cell 1 _ rfl
       go_upto_region 5 with fail
       (try simp only []);repeat (first | go_values | go_skip | go_guarded | go_step | go_upon)
       refine bodyPost_ret (v:=.tuple #[.agg #[.string ⟨#[]⟩,.slice none 0 0],.int .i64 6]) (by simp [results,results14,go_sem,s0,s1,hl0]) rfl ?_;have HFr:Hid (∀ W,Sl REnt (fun k=>w.heap.size≤k) W none 0 0 kCV.entries):=hJ (fun W=>Sl.empty REnt _ _);exact ⟨⟨none,0,by rw [HF.out];rfl,by rw [HF.out];exact HFr.out _⟩,(HBl.out.setCell (Nat.le_refl _) _).setCell (Nat.le_refl _) _⟩
theorem not_in {d:Int} (h:¬ (0≤d∧d<2305843009213693951)):d<0∨(0≤d∧2305843009213693951≤d):=by omega
theorem and_mask31 (n:Int):bits .and .i64 n 2147483647=n % 2147483648:=by
 have h127:(BitVec.ofInt 64 2147483647).toNat=2 ^ 31 - 1:=by decide
 have key:(BitVec.ofInt 64 n &&& BitVec.ofInt 64 2147483647).toNat=(n % ((2 ^ 64:Nat):Int)).toNat % 2 ^ 31:=by
  rw [BitVec.toNat_and,BitVec.toNat_ofInt,h127,Nat.and_two_pow_sub_one_eq_mod]
 show IntKind.i64.wrap ((BitVec.ofInt 64 n &&& BitVec.ofInt 64 2147483647).toNat:Nat)=n % 2147483648
 rw [key,IntKind.wrap_i64];omega
theorem and_mask30 (n:Int):bits .and .i64 n 1073741823=n % 1073741824:=by
 have h127:(BitVec.ofInt 64 1073741823).toNat=2 ^ 30 - 1:=by decide
 have key:(BitVec.ofInt 64 n &&& BitVec.ofInt 64 1073741823).toNat=(n % ((2 ^ 64:Nat):Int)).toNat % 2 ^ 30:=by
  rw [BitVec.toNat_and,BitVec.toNat_ofInt,h127,Nat.and_two_pow_sub_one_eq_mod]
 show IntKind.i64.wrap ((BitVec.ofInt 64 n &&& BitVec.ofInt 64 1073741823).toNat:Nat)=n % 1073741824
 rw [key,IntKind.wrap_i64];omega
theorem halves (x0 x1 y0 y1:Int) :
 ((x0 * y0 % 2305843009213693951+(x0 * y1+x1 * y0) / 1073741824+(x0 * y1+x1 * y0) % 1073741824 * 2147483648 % 2305843009213693951+2 * (x1 * y1) % 2305843009213693951) % 2305843009213693951)
   = (x1 * 2147483648+x0) * (y1 * 2147483648+y0) % 2305843009213693951:=by
 have e:(x1 * 2147483648+x0) * (y1 * 2147483648+y0)=4611686018427387904 * (x1 * y1)+2147483648 * (x0 * y1+x1 * y0)+x0 * y0:=by
  have h1:x1 * 2147483648 * (y1 * 2147483648)=4611686018427387904 * (x1 * y1):=by
   rw [show x1 * 2147483648 * (y1 * 2147483648)=x1 * y1 * (2147483648 * 2147483648) by ac_rfl];omega
  have h2:x1 * 2147483648 * y0=2147483648 * (x1 * y0):=by ac_rfl
  have h3:x0 * (y1 * 2147483648)=2147483648 * (x0 * y1):=by ac_rfl
  rw [Int.add_mul,Int.mul_add,Int.mul_add,h1,h2,h3];omega
 rw [e];generalize x1 * y1=A;generalize x0 * y1+x1 * y0=B;generalize x0 * y0=C;omega
def dg:Int→List Int→Int
 | d,[]=>d
 | d,c :: l=>dg ((d * 1000003+c+1) % 2305843009213693951) l
def InP (d:Int):Prop:=0≤d∧d<2305843009213693951
theorem InP.mod (n:Int):InP (n % 2305843009213693951):=⟨Int.emod_nonneg _ (by decide),Int.emod_lt_of_pos _ (by decide)⟩
theorem dg_in (l:List Int):∀ d,InP d→InP (dg d l):=by
 induction l with
 | nil=>exact fun d h=>h
 | cons c l ih=>exact fun d _=>ih _ (InP.mod _)
theorem dg_append (l m:List Int):∀ d,dg d (l++m)=dg (dg d l) m:=by
 induction l with
 | nil=>exact fun d=>rfl
 | cons c l ih=>exact fun d=>ih _
theorem dg_snoc (l:List Int) (c d:Int):dg d (l++[c])=(dg d l * 1000003+c+1) % 2305843009213693951:=by rw [dg_append];rfl
theorem mod_mac (x y z:Int):(x+y % 2305843009213693951 * z) % 2305843009213693951=(x+y * z) % 2305843009213693951:=by
 rw [Int.add_emod,Int.mul_emod,Int.emod_emod,← Int.mul_emod,← Int.add_emod]
theorem mul_odd (a b A B O:Int) (h1:B % 2=1) (h:a * b % 2305843009213693951=(O+A * B) % 2305843009213693951) :
 a * b % 2305843009213693951=((O+A) % 2305843009213693951+(A+A) % 2305843009213693951 * (B / 2)) % 2305843009213693951:=by
 rw [h,mod_mac,Int.emod_add_emod]
 congr 1
 obtain ⟨q,rfl⟩:∃ q,B=2 * q+1:=⟨B / 2,by omega⟩
 rw [show (2 * q+1) / 2=q by omega,Int.mul_add,Int.add_mul,show A * (2 * q)=2 * (A * q) by ac_rfl];omega
theorem mul_even (a b A B O:Int) (h1:B % 2≠1) (h:a * b % 2305843009213693951=(O+A * B) % 2305843009213693951) :
 a * b % 2305843009213693951=(O+(A+A) % 2305843009213693951 * (B / 2)) % 2305843009213693951:=by
 rw [h,mod_mac]
 congr 1
 obtain ⟨q,rfl⟩:∃ q,B=2 * q:=⟨B / 2,by omega⟩
 rw [show (2 * q) / 2=q by omega,Int.add_mul,show A * (2 * q)=2 * (A * q) by ac_rfl];omega
theorem times_raw (a b x0 x1 y0 y1:Int) (w:World) (h0:0≤x0) (h0':x0<2147483648) (h1:0≤x1) (h1':x1<1073741824) (k0:0≤y0) (k0':y0<2147483648) (k1:0≤y1) (k1':y1<1073741824)
 (ea:a % 2147483648=x0) (eb:b % 2147483648=y0) (fa:a / 2147483648=x1) (fb:b / 2147483648=y1) (p00:0≤x0 * y0) (p00':x0 * y0≤4611686014132420609) (p01:0≤x0 * y1) (p01':x0 * y1≤2305843007066210304)
 (p10:0≤x1 * y0) (p10':x1 * y0≤2305843007066210304) (p11:0≤x1 * y1) (p11':x1 * y1≤1152921504606846976) (ha:0≤a) (ha':a<2305843009213693951) (hb:0≤b) (hb':b<2305843009213693951) :
 Calls Tryz.prog 98 #[.int .i64 a,.int .i64 b] w fun e w'=>e= .returned (.int .i64 ((x0 * y0 % 2305843009213693951+(x0 * y1+x1 * y0) / 1073741824+(x0 * y1+x1 * y0) % 1073741824 * 2147483648 % 2305843009213693951+2 * (x1 * y1) % 2305843009213693951) % 2305843009213693951))∧Below w.heap.size w w':=by
 have m1:=and_mask31;have m2:=and_mask30;have i0:∀ (x y:Value) w,(Instr.index 186 (.agg #[x,y]) (.int .i64 0)).run Tryz.prog w= .ok x w:=fun _ _ _=>by kernel_rfl
 have i1:∀ (x y:Value) w,(Instr.index 186 (.agg #[x,y]) (.int .i64 1)).run Tryz.prog w= .ok y w:=fun _ _ _=>by kernel_rfl
 go_enter func98,ntmps98
 go_wp2_with fail
 refine wp_loop_rounds 3 ?_;rw [rounds_succ]
 go_wp2_with fail
 refine wp_loop_rounds 3 ?_;rw [rounds_succ]
 go_wp2_with fail
 rw [rounds_succ]
 go_wp2_with fail
 rw [rounds_succ]
 go_wp2_with fail
 rw [rounds_succ]
 go_wp2_with fail
 refine wp_loop_rounds 3 ?_;rw [rounds_succ]
 go_wp2_with fail
 rw [rounds_succ]
 go_wp2_with fail
 rw [rounds_succ]
 go_wp2_with fail
 rw [rounds_succ]
 go_wp2_with fail
 go_ret;exact ⟨rfl,by go_grown⟩
theorem times_any (a b:Int) (w:World) (ha:0≤a) (ha':a<2305843009213693951) (hb:0≤b) (hb':b<2305843009213693951) :
 Calls Tryz.prog 98 #[.int .i64 a,.int .i64 b] w fun e w'=>e= .returned (.int .i64 (a * b % 2305843009213693951))∧Below w.heap.size w w':=by
 have hm:∀ (x y X Y:Int),0≤x→x≤X→0≤y→y≤Y→0≤x * y∧x * y≤X * Y:=fun x y X Y h1 h2 h3 h4=>⟨Int.mul_nonneg h1 h3,Int.mul_le_mul h2 h4 h3 (by omega)⟩
 have b0:0≤a % 2147483648∧a % 2147483648≤2147483647∧0≤a / 2147483648∧a / 2147483648≤1073741823:=by omega
 have b1:0≤b % 2147483648∧b % 2147483648≤2147483647∧0≤b / 2147483648∧b / 2147483648≤1073741823:=by omega
 have q00:=hm _ _ _ _ b0.1 b0.2.1 b1.1 b1.2.1;have q01:=hm _ _ _ _ b0.1 b0.2.1 b1.2.2.1 b1.2.2.2;have q10:=hm _ _ _ _ b0.2.2.1 b0.2.2.2 b1.1 b1.2.1;have q11:=hm _ _ _ _ b0.2.2.1 b0.2.2.2 b1.2.2.1 b1.2.2.2;refine (times_raw a b _ _ _ _ w b0.1 (by omega) b0.2.2.1 (by omega) b1.1 (by omega) b1.2.2.1 (by omega) rfl rfl rfl rfl q00.1 (by omega) q01.1 (by omega) q10.1 (by omega) q11.1 (by omega) ha ha' hb hb').mono ?_;rintro e w' ⟨rfl,hw⟩;refine ⟨?_,hw⟩;rw [halves];rw [show a / 2147483648 * 2147483648+a % 2147483648=a by omega,show b / 2147483648 * 2147483648+b % 2147483648=b by omega]
theorem mul_any (a b:Int) (w:World) (ha:0≤a) (ha':a<2305843009213693951) (hb:0≤b) (hb':b<2305843009213693951) :
 Calls Tryz.prog 99 #[.int .i64 a,.int .i64 b] w fun e w'=>e= .returned (.int .i64 (a * b % 2305843009213693951))∧w=w':=by
 go_enter func99,ntmps99
 go_wp2_with fail
 go_loop [0,1,5] (fun x y o=>∃ A B O:Int,x= .int .i64 A∧y= .int .i64 B∧o= .int .i64 O∧0≤A∧A<2305843009213693951∧0≤B∧B<2305843009213693951∧0≤O∧O<2305843009213693951∧Hid (a * b % 2305843009213693951=(O+A * B) % 2305843009213693951)) (fun _ y _=>(intOf y).toNat)
 case atStart=>exact ⟨a,b,0,rfl,rfl,rfl,ha,ha',hb,hb',by omega,by omega,by unfold Hid;rw [Int.zero_add]⟩
 case round =>
  obtain ⟨A,B,O,rfl,rfl,rfl,h1,h2,h3,h4,h5,h6,H⟩:=hrel;by_cases hB:0<B
  · by_cases hodd:B % 2=1
    · go_wp2_with fail
      go_round
      case rel=>exact ⟨_,_,_,rfl,rfl,rfl,by omega,by omega,by omega,by omega,by omega,by omega,mul_odd _ _ _ _ _ hodd H⟩
      case measure=>simp [intOf];omega
    · go_wp2_with fail
      go_round
      case rel=>exact ⟨_,_,_,rfl,rfl,rfl,by omega,by omega,by omega,by omega,by omega,by omega,mul_even _ _ _ _ _ hodd H⟩
      case measure=>simp [intOf];omega
  · go_wp2_with fail
    go_ret;obtain rfl:B=0:=by omega
    refine ⟨?_,rfl⟩;rw [H.out,Int.mul_zero,Int.add_zero,Int.emod_eq_of_lt h5 h6];rfl
def Rd (w:World) (a:Option Addr) (len:Nat) (l:List Int):Prop :=
 l.length=len∧(∀ x ∈ l,0≤x∧x≤255)∧∀ i,i<len→∃ b off,a=some ⟨b,off,none⟩∧w.cell? ⟨b,off+i,none⟩=some (.int .u8 (l.getD i 0))
theorem Rd.below {w w':World} {a:Option Addr} {len:Nat} {l:List Int} (h:Rd w a len l) (hb:Below w.heap.size w w'):Rd w' a len l :=
 ⟨h.1,h.2.1,fun i hi=>let ⟨b,off,e,hc⟩:=h.2.2 i hi;⟨b,off,e,by rw [hb.cell (kCR hc)];exact hc⟩⟩
theorem Rd.byte {w:World} {a:Option Addr} {len:Nat} {l:List Int} (h:Rd w a len l) (i:Nat):0≤l.getD i 0∧l.getD i 0≤255:=by
 rcases Nat.lt_or_ge i l.length with g | g
 · rw [List.getD_eq_getElem?_getD,List.getElem?_eq_getElem g];exact h.2.1 _ (List.getElem_mem g)
 · rw [List.getD_eq_getElem?_getD,List.getElem?_eq_none g];exact ⟨by decide,by decide⟩
theorem dg_take (l:List Int) (d:Int) (k:Nat) (h:k<l.length):dg d (l.take (k+1))=(dg d (l.take k) * 1000003+l.getD k 0+1) % 2305843009213693951:=by
 rw [List.take_succ_eq_append_getElem h,dg_snoc,List.getD_eq_getElem?_getD,List.getElem?_eq_getElem h];rfl
theorem dg_step (l:List Int) (d:Int) (k:Nat) (h:k<l.length):(dg d (l.take k) * 1000003 % 2305843009213693951+l.getD k 0+1) % 2305843009213693951=dg d (l.take (k+1)):=by
 rw [dg_take l d k h,Int.add_assoc,Int.emod_add_emod,Int.add_assoc]
theorem more_any (d:Int) (a:Option Addr) (len cap:Nat) (l:List Int) (w:World) (hd:InP d) (hr:Rd w a len l) (hlen:len≤maxLen) :
 Calls Tryz.prog 48 #[.int .i64 d,.slice a len cap] w fun e w'=>e= .returned (.int .i64 (dg d l))∧Below w.heap.size w w':=by
 unfold maxLen at hlen;have HR:=hJ hr;clear hr;cases a with
 | none =>
   have hl:len=0:=by
    rcases Nat.eq_zero_or_pos len with h | h
    · exact h
    · obtain ⟨b,off,e,_⟩:=HR.out.2.2 0 h;cases e
   subst hl;have hl:l=[]:=List.eq_nil_of_length_eq_zero HR.out.1;subst hl;go_enter func48,ntmps48
   go_wp2_with fail
   refine wp_loop_rounds 1 ?_;rw [rounds_succ]
   go_wp2_with fail
   go_ret;exact ⟨rfl,Below.refl _ _⟩
 | some a =>
   obtain ⟨b,off,sp⟩:=a;go_enter func48,ntmps48
   go_wp2_with fail
   go_loopw [0,9] (fun x i wr=>∃ k:Nat,k≤len∧i= .int .i64 k∧x= .int .i64 (dg d (l.take k))∧Below w.heap.size w wr) (fun _ i _=>len - (intOf i).toNat)
   case atStart=>exact ⟨0,Nat.zero_le _,rfl,rfl,Below.refl _ _⟩
   case round =>
    obtain ⟨k,hk,rfl,rfl,hB⟩:=hrel;by_cases hlt:k<len
    · obtain ⟨b',off',e,hc⟩:=(HR.out.below hB).2.2 k hlt
      cases e;have hby:=HR.out.byte k;have hin:=dg_in (l.take k) d hd;obtain ⟨hin1,hin2⟩:=hin;have H:Hid _:=hJ (dg_step l d k (by rw [HR.out.1];exact hlt));generalize hv:l.getD k 0=v at *;generalize hu:dg d (l.take k)=u at *;have HV:=hJ hv;have HU:=hJ hu;clear hv hu
      go_wp2_with fail
      refine (times_any _ _ _ hin1 hin2 (by omega) (by omega)).mono ?_;rintro e w1 ⟨rfl,hb1⟩;have hm:0≤u * 1000003 % 2305843009213693951∧u * 1000003 % 2305843009213693951<2305843009213693951:=InP.mod _;obtain ⟨hm1,hm2⟩:=hm
      go_wp2_with fail
      go_roundw
      case rel=>exact ⟨k+1,by omega,by go_num,by rw [← H.out],hB.trans (hb1.mono hB.size)⟩
      case measure=>simp [intOf];omega
    · go_wp2_with fail
      go_ret;exact ⟨by rw [List.take_of_length_le (by rw [HR.out.1];omega)];rfl,hB⟩
theorem digest_Of (a:Option Addr) (len cap:Nat) (l:List Int) (w:World) (hr:Rd w a len l) (hlen:len≤maxLen) :
 Calls Tryz.prog 22 #[.slice a len cap] w fun e w'=>e= .returned (.int .i64 (dg 0 l))∧Below w.heap.size w w':=by
 have HR:=hJ hr;clear hr;go_enter func22,ntmps22
 go_wp2_with fail
 refine (more_any 0 a len cap l _ ⟨by decide,by decide⟩ HR.out hlen).mono ?_;rintro e w1 ⟨rfl,hb⟩
 go_wp2_with fail
 go_ret;exact ⟨rfl,hb⟩
def moreV (d:Int) (l:List Int):Int:=if 0≤d∧d<2305843009213693951 then dg d l else 0
def moreE (d:Int):Int:=if 0≤d∧d<2305843009213693951 then 0 else 2
theorem rMore_any (d:Int) (a:Option Addr) (len cap:Nat) (l:List Int) (w:World) (hr:Rd w a len l) (hlen:len≤maxLen) :
 Calls Tryz.prog 49 #[.int .i64 d,.slice a len cap] w fun e w'=>e= .returned (.tuple #[.int .i64 (moreV d l),.int .i64 (moreE d)])∧Below w.heap.size w w':=by
 unfold maxLen at hlen;have HR:=hJ hr;clear hr;by_cases h:0≤d∧d<2305843009213693951
 · unfold moreV moreE
   rw [if_pos h,if_pos h];have hd:InP d:=h;obtain ⟨h1,h2⟩:=h;have h1':¬ d<0:=by omega
   have h2':¬ 2305843009213693951≤d:=by omega
   cases a with
   | none =>
     have hl:len=0:=by
      rcases Nat.eq_zero_or_pos len with h | h
      · exact h
      · obtain ⟨b,off,e,_⟩:=HR.out.2.2 0 h;cases e
     subst hl;have hl:l=[]:=List.eq_nil_of_length_eq_zero HR.out.1;subst hl;go_enter func49,ntmps49
     go_wp2_with fail
     refine wp_loop_rounds 1 ?_;rw [rounds_succ]
     go_wp2_with fail
     go_ret2
     exact ⟨rfl,Below.refl _ _⟩
   | some a =>
     obtain ⟨b,off,sp⟩:=a;go_enter func49,ntmps49
     go_wp2_with fail
     go_loopw [0,6] (fun x i wr=>∃ k:Nat,k≤len∧i= .int .i64 k∧x= .int .i64 (dg d (l.take k))∧Below w.heap.size w wr) (fun _ i _=>len - (intOf i).toNat)
     case atStart=>exact ⟨0,Nat.zero_le _,rfl,rfl,Below.refl _ _⟩
     case round =>
      obtain ⟨k,hk,rfl,rfl,hB⟩:=hrel;by_cases hlt:k<len
      · obtain ⟨b',off',e,hc⟩:=(HR.out.below hB).2.2 k hlt
        cases e;have hby:=HR.out.byte k;have hin:=dg_in (l.take k) d hd;obtain ⟨hin1,hin2⟩:=hin;have H:Hid _:=hJ (dg_step l d k (by rw [HR.out.1];exact hlt));generalize hv:l.getD k 0=v at *;generalize hu:dg d (l.take k)=u at *;have HV:=hJ hv;have HU:=hJ hu;clear hv hu;have hm:0≤u * 1000003 % 2305843009213693951∧u * 1000003 % 2305843009213693951<2305843009213693951:=InP.mod _;obtain ⟨hm1,hm2⟩:=hm
        go_wp2_with fail
        go_quiet ((go_at_call 99;exact Calls.quiet_of_same ((mul_any _ _ _ hin1 hin2 (by omega) (by omega)).mono fun e w' h=>⟨h.1,h.2.symm⟩)))
        go_wp2_with fail
        go_roundw
        case rel =>
         exact ⟨k+1,by omega,by go_num,by rw [← H.out],below_drewN hB _⟩
        case measure=>simp [intOf];omega
      · go_wp2_with fail
        go_ret2
        exact ⟨by rw [List.take_of_length_le (by rw [HR.out.1];omega)];rfl,hB⟩
 · unfold moreV moreE
   rw [if_neg h,if_neg h];rcases not_in h with h1 | ⟨h1,h2⟩
   all_goals
    go_enter func49,ntmps49
    go_wp2_with fail
    go_ret2
    exact ⟨rfl,Below.refl _ _⟩
theorem ref02_Of (a:Option Addr) (len cap:Nat) (l:List Int) (w:World) (hr:Rd w a len l) (hlen:len≤maxLen) :
 Calls Tryz.prog 23 #[.slice a len cap] w fun e w'=>e= .returned (.int .i64 (dg 0 l))∧Below w.heap.size w w':=by
 have HR:=hJ hr;clear hr;go_enter func23,ntmps23
 go_wp2_with fail
 refine (rMore_any 0 a len cap l _ HR.out hlen).mono ?_;rintro e w1 ⟨rfl,hb⟩
 go_wp2_with fail
 go_ret;exact ⟨rfl,hb⟩open Go.RowKit
theorem digestOf (a:Option Addr) (len cap:Nat) (l:List Int) (w:World) (hr:Rd w a len l) (hlen:len≤maxLen) :
 Calls Tryz.prog 22 #[.slice a len cap] w fun e w'=>e= .returned (.int .i64 (dg 0 l))∧Below w.heap.size w w':=digest_Of a len cap l w hr hlen
theorem ref02Of (a:Option Addr) (len cap:Nat) (l:List Int) (w:World) (hr:Rd w a len l) (hlen:len≤maxLen) :
 Calls Tryz.prog 23 #[.slice a len cap] w fun e w'=>e= .returned (.int .i64 (dg 0 l))∧Below w.heap.size w w':=ref02_Of a len cap l w hr hlen
def digI (x:Ifc):Int:=if kAL x then dg 0 (nb (kC0 x)) else 0
theorem rd_bytes {s:Str} {w:World} {g:Nat} (h:∀ k,k<s.size→w.cell? ⟨g,k,none⟩=some (.int .u8 (bt s k))):Rd w (some ⟨g,0,none⟩) s.size (nb s) :=
 ⟨kJY s,nb_byte s,fun i hi=>⟨g,0,rfl,by rw [Nat.zero_add];exact h i hi⟩⟩
theorem lineE_sz60 {x:Ifc} (hz:∀ e ∈ x.entries,tame e) (hmz:x.module_.size≤100000) (hv:kAL x=true):(kC0 x).size≤300000000:=by
 have hn:x.entries.length≤60:=by
  unfold kAL at hv;rw [Bool.and_eq_true,Bool.and_eq_true,decide_eq_true_eq] at hv;exact hv.2.2
 rw [← lineN_end];exact lineN_size hz hmz hn _
theorem signatureDigest {S:Blk} {x:Ifc} {a:Option Addr} {c:Nat} {w:World} (hs:Sl REnt S w a x.entries.length c x.entries) (hz:∀ e ∈ x.entries,tame e) (hmz:x.module_.size≤100000) (E:Env w) :
 Calls Tryz.prog 9 #[.agg #[.string x.module_,.slice a x.entries.length c]] w fun e w'=>e= .returned (.tuple #[.int .i64 (digI x),.int .i64 (kB6 (kAL x))])∧Below w.heap.size w w':=by
 have HV:=hJ (fun (W:World) (hW:Below w.heap.size w W)=>kDR (hs.below hW) hz hmz (E.below hW));have HTz:=hJ (fun hv=>lineE_sz60 (x:=x) hz hmz hv);clear hs hz hmz;generalize x.entries.length=n at *;obtain ⟨B0,ya,hW0⟩:=box1 w 29 [.string x.module_,.slice a n c];have xa0:=box0 ya 0 _ rfl;have xa1:=box0 ya 1 _ rfl;clear ya;have HC:=hJ (HV.out _ B0.out);clear HV;cases hv:kAL x with
 | false =>
   have HF:Hid (digI x=0):=hJ (by unfold digI;rw [hv];rfl);have HVe:Hid ((if kAL x then (0:Int) else 1)=1):=hJ (by rw [hv];rfl);rw [HVe.out] at HC;generalize kB3 x=o at *;go_enter func9,ntmps9
   go_wp2_with fail
   refine (HC.out).mono ?_;rintro e w1 ⟨rfl,hb⟩
   go_wp2_with fail
   go_returns
   exact ⟨by rw [HF.out];rfl,B0.out.trans (hb.mono B0.out.size)⟩
 | true =>
   have HF:Hid (digI x=dg 0 (nb (kC0 x))):=hJ (by unfold digI;rw [if_pos hv]);have HVe:Hid ((if kAL x then (0:Int) else 1)=0):=hJ (by rw [hv];rfl);have HPe:Hid (kB3 x=kC0 x):=hJ (by unfold kB3;rw [if_pos hv]);have htz:=HTz.out hv;rw [HVe.out,HPe.out] at HC;generalize kC0 x=o at *;go_enter func9,ntmps9
   go_wp2_with fail
   refine (HC.out).mono ?_;rintro e w1 ⟨rfl,hb⟩;obtain ⟨c0,w0,hcv,hr,hB0⟩:=conv_str o w1;have HD:=hJ (digestOf (some ⟨w1.heap.size,0,none⟩) o.size c0 (nb o) w0 (rd_bytes hr) (by unfold maxLen;omega));have HB0:=hJ hB0;have HB:=hJ hb;clear hr hB0 hb
   go_wp2_with fail
   refine (HD.out).mono ?_;rintro e w2 ⟨rfl,hb2⟩
   go_wp2_with fail
   go_returns
   exact ⟨by rw [HF.out];rfl,B0.out.trans ((HB.out.trans ((HB0.out.trans (hb2.mono HB0.out.size)).mono HB.out.size)).mono B0.out.size)⟩
theorem ref57Digest {S:Blk} {x:Ifc} {a:Option Addr} {c:Nat} {w:World} (hs:Sl REnt S w a x.entries.length c x.entries) (hz:∀ e ∈ x.entries,tame e∧e.scheme.params.length≤1000000) (hmz:x.module_.size≤100000) (hE:True) :
 Calls Tryz.prog 10 #[.agg #[.string x.module_,.slice a x.entries.length c]] w fun e w'=>e= .returned (.tuple #[.int .i64 (digI x),.int .i64 (kB6 (kAL x))])∧Below w.heap.size w w':=by
 have HV:=hJ (fun (W:World) (hW:Below w.heap.size w W)=>kI4 (hs.below hW) hz hmz);have HTz:=hJ (fun hv=>lineE_sz60 (x:=x) (fun e he=>(hz e he).1) hmz hv);clear hs hz hmz;generalize x.entries.length=n at *;obtain ⟨B0,ya,hW0⟩:=box1 w 24 [.string x.module_,.slice a n c];have xa0:=box0 ya 0 _ rfl;have xa1:=box0 ya 1 _ rfl;clear ya;have HC:=hJ (HV.out _ B0.out);clear HV;cases hv:kAL x with
 | false =>
   have HF:Hid (digI x=0):=hJ (by unfold digI;rw [hv];rfl);have HVe:Hid (kB6 (kAL x)=1):=hJ (by rw [hv];rfl);rw [HVe.out] at HC;generalize kB3 x=o at *;go_enter func10,ntmps10
   go_wp2_with fail
   refine (HC.out).mono ?_;rintro e w1 ⟨rfl,hb⟩
   go_wp2_with fail
   go_returns
   exact ⟨by rw [HF.out];rfl,B0.out.trans (hb.mono B0.out.size)⟩
 | true =>
   have HF:Hid (digI x=dg 0 (nb (kC0 x))):=hJ (by unfold digI;rw [if_pos hv]);have HVe:Hid (kB6 (kAL x)=0):=hJ (by rw [hv];rfl);have HPe:Hid (kB3 x=kC0 x):=hJ (by unfold kB3;rw [if_pos hv]);have htz:=HTz.out hv;rw [HVe.out,HPe.out] at HC;generalize kC0 x=o at *;go_enter func10,ntmps10
   go_wp2_with fail
   refine (HC.out).mono ?_;rintro e w1 ⟨rfl,hb⟩;obtain ⟨c0,w0,hcv,hr,hB0⟩:=conv_str o w1;have HD:=hJ (ref02Of (some ⟨w1.heap.size,0,none⟩) o.size c0 (nb o) w0 (rd_bytes hr) (by unfold maxLen;omega));have HB0:=hJ hB0;have HB:=hJ hb;clear hr hB0 hb
   go_wp2_with fail
   refine (HD.out).mono ?_;rintro e w2 ⟨rfl,hb2⟩
   go_wp2_with fail
   go_returns
   exact ⟨by rw [HF.out];rfl,B0.out.trans ((HB.out.trans ((HB0.out.trans (hb2.mono HB0.out.size)).mono HB.out.size)).mono B0.out.size)⟩
end Go.Proofs.YtdjggkiagmlfpaaGreatDoor
