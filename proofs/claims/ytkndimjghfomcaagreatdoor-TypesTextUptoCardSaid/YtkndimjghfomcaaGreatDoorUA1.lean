/- The claim's texts, part UA1: contracts of the functions that the statement reaches, and what they say of the data. -/
import Derived.Test.YtkndimjghfomcaaGreatDoorU6
set_option maxRecDepth 100000
set_option maxHeartbeats 8000000
set_option linter.all false
namespace Go.Proofs.YtkndimjghfomcaaGreatDoor
open Go.Proofs.Tryz
open Go.RowKit
theorem types_Print {S:Blk} {x:Typ} {cs:List Value} {w:World} (h:RTyp.rd S w cs x) (hz:szT x) (E:Env w) :
 Calls Tryz.prog 34 #[.agg cs.toArray] w fun e w'=>e= .returned (.tuple #[.string (kBQ x),.int .i64 (kCF (kAD x))])∧Below w.heap.size w w':=by
 have HV:Hid (∀ W,Below w.heap.size w W→Calls Tryz.prog 26 #[.agg cs.toArray] W fun e w'=>e= .returned (.bool (kAD x))∧Below W.heap.size W w'):=hJ (fun W hW=>kCL (RTyp.below h hW) hz (E.below hW));have HT:Hid (∀ W,Below w.heap.size w W→Calls Tryz.prog 59 #[.agg cs.toArray] W fun e w'=>e= .returned (.string (kAQ x))∧Below W.heap.size W w'):=hJ (fun W hW=>kFX (RTyp.below h hW) hz (E.below hW));obtain ⟨t,rfl,a,c,rfl,hs⟩:=h;clear hs hz E;obtain ⟨B0,ya,hW0⟩:=box1 w 26 [.string x.elem,.string x.shape.row,.slice a x.shape.dims.length c];have xa0:=box0 ya 0 _ rfl;have xa1:=box0 ya 1 _ rfl;have xa2:=box0 ya 2 _ rfl;clear ya;have HC:=hJ (HV.out _ B0.out);cases hv:kAD x with
 | false =>
   have HF:Hid (kBQ x=⟨#[]⟩):=hJ (by unfold kBQ;rw [hv];rfl);rw [hv] at HC;clear HV HT;go_enter func34,ntmps34
   go_wp2_with fail
   refine (HC.out).mono ?_;rintro e w1 ⟨rfl,hb⟩
   go_wp2_with fail
   go_returns
   exact ⟨by rw [HF.out];rfl,B0.out.trans (hb.mono B0.out.size)⟩
 | true =>
   have HF:Hid (kBQ x=kAQ x):=hJ (by unfold kBQ;rw [if_pos hv]);rw [hv] at HC;clear HV hv;generalize kAQ x=tx at *;go_enter func34,ntmps34
   go_wp2_with fail
   refine (HC.out).mono ?_;rintro e w1 ⟨rfl,hb⟩;have HW1:Hid (Below w.heap.size w w1):=hJ (B0.out.trans (hb.mono B0.out.size));have g0:=kAE xa0 _ hb;have g1:=kAE xa1 _ hb;have g2:=kAE xa2 _ hb;have HP:=hJ (HT.out _ HW1.out);clear xa0 xa1 xa2 hb HC HT B0 hW0
   go_wp2_with fail
   refine (HP.out).mono ?_;rintro e w2 ⟨rfl,hb2⟩
   go_wp2_with fail
   go_returns
   exact ⟨by rw [HF.out];rfl,HW1.out.trans (hb2.mono HW1.out.size)⟩
theorem readT_sound {s:Str} {t:Typ} (h:kBS s=some t):kAD t=true∧kAQ t=s:=kDJ (by rw [readK_eq];exact h)
theorem opt_law (s:Str):(optE (kBS s)=0∧kCF (kAD (optT (kBS s)))=0∧kBQ (optT (kBS s))=s)∨optE (kBS s)=6:=by
 cases h:kBS s with
 | none=>exact .inr rfl
 | some t =>
   obtain ⟨h1,h2⟩:=readT_sound h;refine .inl ⟨rfl,?_,?_⟩
   · show kCF (kAD t)=0
     rw [h1];rfl
   · show kBQ t=s
     unfold kBQ;rw [if_pos h1];exact h2
theorem opt_sz (s:Str):szT (optT (kBS s)):=by
 cases h:kBS s with
 | none=>exact ⟨by decide,by decide,fun x hx=>by cases hx⟩
 | some t=>exact typT_sz (readT_sound h).1
theorem back_law (x:Typ):((kCF (kAD x)=0∧optE (kBS (kBQ x))=0∧optT (kBS (kBQ x))=x)∨kCF (kAD x)=1)∧TOk (kBQ x):=by
 cases h:kAD x with
 | true =>
   have hp:kBQ x=kAQ x:=by unfold kBQ;rw [if_pos h]
   rw [hp,(kDM h).1];exact ⟨.inl ⟨rfl,rfl,rfl⟩,text_TOk h⟩
 | false =>
   have hp:kBQ x=⟨#[]⟩:=by unfold kBQ;rw [h];rfl
   rw [hp];exact ⟨.inr rfl,kHJ (by decide)⟩
theorem law12_Text {S:Blk} {x:Typ} {cs:List Value} {s:Str} {w:World} (h:RTyp.rd S w cs x) (hb:∀ y ∈ x.shape.dims,∀ t ∈ y.terms,t.v.size≤281474976710656) (hr:x.shape.row.size≤281474976710656) (he:x.elem.size≤281474976710656) (E:EnvM w) :
 Calls Tryz.prog 6 #[.agg cs.toArray,.string s] w fun e w'=>e= .returned (.bool true)∧Below w.heap.size w w':=by
 have HE:=hJ (fun (W:World) (hW:Below w.heap.size w W)=>E.below hW);have HF:=hJ (fun (W:World) (hW:Below w.heap.size w W)=>kER (RTyp.below h hW) hb hr he);have HR:=hJ h;obtain ⟨_,rfl,a,c,rfl,_⟩:=h;clear hb hr he E;obtain ⟨B0,ya,hW0⟩:=box1 w 26 [.string x.elem,.string x.shape.row,.slice a x.shape.dims.length c];have xa0:=box0 ya 0 _ rfl;have xa1:=box0 ya 1 _ rfl;have xa2:=box0 ya 2 _ rfl;have bka:Bx _ _ _ _:=ya;clear ya;have HX:=hJ bka;clear bka;have HA:=hJ (kDL _ (HE.out _ B0.out));go_enter func6,ntmps6
 go_wp2_with fail
 refine (HA.out).mono ?_;rintro e w1 ⟨rfl,hb1⟩;have HX1:=hJ (HX.out.below hb1 HX.out.lt);have HW1:=hJ (B0.out.trans (hb1.mono B0.out.size));clear hb1 HX HA B0 xa0 xa1 xa2;have x0:=HX1.out.cell 0 _ rfl;have x1:=HX1.out.cell 1 _ rfl;have x2:=HX1.out.cell 2 _ rfl;by_cases hf:kDW x=true
 · have HF1:=HF.out w1 HW1.out
   rw [hf] at HF1;have HF2:=hJ HF1;clear HF1;by_cases hsz:s.size > 100
   · go_wp2_with fail
     refine (HF2.out).mono ?_;rintro e w2 ⟨rfl,hb2⟩;have HW2:=hJ (HW1.out.trans (hb2.mono HW1.out.size));clear hb2 HF2 HF;have HA2:=hJ (kDL _ (HE.out _ HW2.out))
     go_wp2_with fail
     refine (HA2.out).mono ?_;rintro e w3 ⟨rfl,hb3⟩;have HW3:=hJ (HW2.out.trans (hb3.mono HW2.out.size));clear hb3
     go_wp2_with fail
     go_ret;exact ⟨rfl,HW3.out⟩
   · have HSz:=hJ (few_typ hf)
     have HTs:=hJ (kHJ (y:=s) (by omega))
     go_wp2_with fail
     refine (HF2.out).mono ?_;rintro e w2 ⟨rfl,hb2⟩;have HW2:=hJ (HW1.out.trans (hb2.mono HW1.out.size));have HX2:=hJ (HX1.out.below hb2 HX1.out.lt);clear hb2 HF2 HF HX1 HW1 x0 x1 x2;have x0:=HX2.out.cell 0 _ rfl;have x1:=HX2.out.cell 1 _ rfl;have x2:=HX2.out.cell 2 _ rfl;have HP1:=hJ (types_Print (RTyp.below HR.out HW2.out) HSz.out (HE.out _ HW2.out).env)
     go_wp2_with fail
     refine (HP1.out).mono ?_;rintro e w3 ⟨rfl,hb3⟩;have HW3:=hJ (HW2.out.trans (hb3.mono HW2.out.size));have HX3:=hJ (HX2.out.below hb3 HX2.out.lt);clear hb3 HP1 HX2 HW2 x0 x1 x2;have x0:=HX3.out.cell 0 _ rfl;have x1:=HX3.out.cell 1 _ rfl;have x2:=HX3.out.cell 2 _ rfl;have HP2:=hJ (kE7 (RTyp.below HR.out HW3.out) HSz.out)
     go_wp2_with fail
     refine (HP2.out).mono ?_;rintro e w4 ⟨rfl,hb4⟩;have HW4:=hJ (HW3.out.trans (hb4.mono HW3.out.size));have HX4:=hJ (HX3.out.below hb4 HX3.out.lt);clear hb4 HP2 HX3 HW3 x0 x1 x2;have HQ1:=hJ (kGO s HTs.out.1 HTs.out.2 w4 (HE.out _ HW4.out))
     go_wp2_with fail
     refine HQ1.out.mono ?_;rintro e w5 ⟨⟨ds,rfl,h5⟩,hb5⟩;obtain ⟨_,rfl,a5,c5,rfl,_⟩:=id h5;have HR5:=hJ h5;have HW5:=hJ (HW4.out.trans (hb5.mono HW4.out.size));have HX5:=hJ (HX4.out.below hb5 HX4.out.lt);clear h5 hb5 HQ1 HX4 HW4;have HEq:=hJ ((kHX (optT (kBS s)) (optT (kBS s))).2 rfl);have HQ2:=hJ (fun W=>kI5 s HTs.out.1 W);have HOl:=hJ (opt_law s);have HYz:=hJ (opt_sz s);have HBl:=hJ (back_law x);have HP8:=hJ (fun (W:World) (hW:Below w.heap.size w W)=>kGO (kBQ x) HBl.out.2.1 HBl.out.2.2 W (HE.out W hW));generalize optT (kBS s)=y at *;generalize optE (kBS s)=f1 at *;obtain ⟨HB5,hx5,hz5⟩:=box1 w5 26 [.string y.elem,.string y.shape.row,.slice a5 y.shape.dims.length c5];have HY5:Hid (Bx _ _ _ _):=hJ hx5;have HS5:=hJ (RTyp.below HR5.out HB5.out);have HV5:=hJ (HW5.out.trans (HB5.out.mono HW5.out.size));have HZ5:=hJ (HX5.out.below HB5.out HX5.out.lt);clear hx5 HR5 HW5 HX5 HB5
     go_wp2_with fail
     refine (HQ2.out _).mono ?_;rintro e w6 ⟨⟨ds,rfl,h6⟩,hb6⟩;obtain ⟨_,rfl,a6,c6,rfl,_⟩:=id h6;have HR6:=hJ h6;have HW6:=hJ (HV5.out.trans (hb6.mono HV5.out.size));have HX6:=hJ (HZ5.out.below hb6 HZ5.out.lt);have HY6:=hJ (HY5.out.below hb6 HY5.out.lt);have HS6:=hJ (RTyp.below HS5.out hb6);have hl6:=hb6.size;rw [hz5] at hl6;have hl2:=HX6.out.lt;clear h6 hb6 HQ2 HV5 HZ5 HY5 HS5 hz5;obtain ⟨HB6,hx6,hz6⟩:=box1 w6 26 [.string y.elem,.string y.shape.row,.slice a6 y.shape.dims.length c6];have HT6:Hid (Bx _ _ _ _):=hJ hx6;have HQ6:=hJ (RTyp.below HR6.out HB6.out);have HV6:=hJ (HW6.out.trans (HB6.out.mono HW6.out.size));have HX7:=hJ (HX6.out.below HB6.out hl2);have HY7:=hJ (HY6.out.below HB6.out HY6.out.lt);have HS7:=hJ (RTyp.below HS6.out HB6.out);clear hx6 HR6 HW6 HX6 HY6 HS6 HB6;have y0:=HY7.out.cell 0 _ rfl;have y1:=HY7.out.cell 1 _ rfl;have y2:=HY7.out.cell 2 _ rfl;have z0:=HT6.out.cell 0 _ rfl;have z1:=HT6.out.cell 1 _ rfl;have z2:=HT6.out.cell 2 _ rfl;have HE2:=hJ (kGV HS7.out HQ6.out);rw [HEq.out] at HE2
     go_wp2_with fail
     refine (HE2.out).mono ?_;rintro e w7 ⟨rfl,hb7⟩;have HW7:=hJ (HV6.out.trans (hb7.mono HV6.out.size));have HX8:=hJ (HX7.out.below hb7 HX7.out.lt);have HY8:=hJ (HY7.out.below hb7 HY7.out.lt);have HS8:=hJ (RTyp.below HS7.out hb7);clear hb7 HE2 HX7 HY7 HS7 HT6 HQ6 HV6 y0 y1 y2 z0 z1 z2 HEq
     go_wp2_with fail
     refine (HP8.out _ HW7.out).mono ?_;rintro e w8 ⟨⟨ds,rfl,h8⟩,hb8⟩;have HB1:=hJ HBl.out.1;clear HBl HP8 HTs;generalize optT (kBS (kBQ x))=z at *;generalize optE (kBS (kBQ x))=f2 at *;obtain ⟨_,rfl,a8,c8,rfl,_⟩:=id h8;have HR8:=hJ h8;have HW8:=hJ (HW7.out.trans (hb8.mono HW7.out.size));have HX9:=hJ (HX8.out.below hb8 HX8.out.lt);have HY9:=hJ (HY8.out.below hb8 HY8.out.lt);have HS9:=hJ (RTyp.below HS8.out hb8);clear h8 hb8 HX8 HY8 HS8 HW7;have hl9:=HX9.out.lt;have hm9:=HY9.out.lt;obtain ⟨HB8,hx8,hz8⟩:=box1 w8 26 [.string z.elem,.string z.shape.row,.slice a8 z.shape.dims.length c8];have HZ8:Hid (Bx _ _ _ _):=hJ hx8;have HQ8:=hJ (RTyp.below HR8.out HB8.out);have HV8:=hJ (HW8.out.trans (HB8.out.mono HW8.out.size));have HX10:=hJ (HX9.out.below HB8.out hl9);have HY10:=hJ (HY9.out.below HB8.out hm9);have HS10:=hJ (RTyp.below HS9.out HB8.out);clear hx8 HR8 HW8 HX9 HY9 HS9 HB8;have y0:=HY10.out.cell 0 _ rfl;have y1:=HY10.out.cell 1 _ rfl;have y2:=HY10.out.cell 2 _ rfl;have HP9:=hJ (types_Print HS10.out HYz.out (HE.out _ HV8.out).env)
     go_wp2_with fail
     refine (HP9.out).mono ?_;rintro e w9 ⟨rfl,hb9⟩;have HW9:=hJ (HV8.out.trans (hb9.mono HV8.out.size));have HX11:=hJ (HX10.out.below hb9 HX10.out.lt);have HZ9:=hJ (HZ8.out.below hb9 HZ8.out.lt);have HQ9:=hJ (RTyp.below HQ8.out hb9);clear hb9 HP9 HX10 HY10 HS10 HZ8 HQ8 HV8 y0 y1 y2 hz8;have x0:=HX11.out.cell 0 _ rfl;have x1:=HX11.out.cell 1 _ rfl;have x2:=HX11.out.cell 2 _ rfl;have z0:=HZ9.out.cell 0 _ rfl;have z1:=HZ9.out.cell 1 _ rfl;have z2:=HZ9.out.cell 2 _ rfl;have HE9:=hJ (kGV HQ9.out (RTyp.below HR.out HW9.out))
     go_upto_region 11 with fail
     have h1:=HB1.out;have h2:=HOl.out;clear HB1 HOl HYz HSz;generalize kCF (kAD x)=g1 at *;generalize kCF (kAD y)=g3 at *;generalize kBQ y=g4 at *;rcases h1 with ⟨rfl,rfl,rfl⟩ | rfl
     · rw [(kHX _ _).2 rfl] at HE9
       rcases h2 with ⟨rfl,rfl,rfl⟩ | rfl
       · go_wp2_with fail
         refine (HE9.out).mono ?_;rintro e w10 ⟨rfl,hb10⟩;have HW10:=hJ (HW9.out.trans (hb10.mono HW9.out.size));clear hb10
         go_wp2_with fail
         go_ret;exact ⟨rfl,HW10.out⟩
       · go_wp2_with fail
         refine (HE9.out).mono ?_;rintro e w10 ⟨rfl,hb10⟩;have HW10:=hJ (HW9.out.trans (hb10.mono HW9.out.size));clear hb10
         go_wp2_with fail
         go_ret;exact ⟨rfl,HW10.out⟩
     · clear HE9
       rcases h2 with ⟨rfl,rfl,rfl⟩ | rfl
       · go_wp2_with fail
         go_ret;exact ⟨rfl,HW9.out⟩
       · go_wp2_with fail
         go_ret;exact ⟨rfl,HW9.out⟩
 · go_wp2_with fail
   refine (HF.out w1 HW1.out).mono ?_;rintro e w2 ⟨rfl,hb2⟩;have hf:kDW x=false:=by simpa using hf
   rw [hf];have HW2:=hJ (HW1.out.trans (hb2.mono HW1.out.size));clear hb2 HF;have HA2:=hJ (kDL _ (HE.out _ HW2.out))
   go_wp2_with fail
   refine (HA2.out).mono ?_;rintro e w3 ⟨rfl,hb3⟩;have HW3:=hJ (HW2.out.trans (hb3.mono HW2.out.size));clear hb3
   go_wp2_with fail
   go_ret;exact ⟨rfl,HW3.out⟩
end Go.Proofs.YtkndimjghfomcaaGreatDoor
namespace Go.Proofs.YtkndimjghfomcaaGreatDoor.typesText
open Go.Proofs.Tryz
open Go.ChangeShapes Go.WideShapes Go.ChangeAt Go.RowKit
theorem own:ownKnob Tryz.prog.godebug=none:=by kernel_rfl
theorem kEQ:laidOutB Tryz.prog=true:=by kernel_rfl
theorem kDS {W:World} {l:List (String × DataW Unit)} (name:String) {x:String × DataW Unit} (h:laidMetH Tryz.prog l W) (hf:l.filter (fun y=>y.1==name)=[x]) (hx:[x].filter (fun y=>y.2.handleName?.isNone)=[x]):laidMet Tryz.prog [x] W:=by
 have h1:=h.filter (fun y=>y.1==name);rw [hf] at h1;have h2:=(laidMetH_iff.1 h1).1
 rwa [hx] at h2
theorem kED {W:World} {name tn:String} {d:DataW Unit} {g:Nat} {t:TypeId} {ms:Array (String × TypeId)} (hg:Tryz.prog.globalNamed name=some g) (hty:(Tryz.prog.globals[g]?).map (·.type)=some t) (ht:Tryz.prog.underlying t=some (.interface ms)) (h:laidMet Tryz.prog [(name,.iface tn d)] W):∃ tp p,World.var? Tryz.prog W name=some #[.iface tp p]:=by
 obtain ⟨ps,⟨g',t',cs,fuel,p,q,hg',ht',hvar,hd,_,_⟩,_⟩:=h;obtain rfl:=Option.some.inj (hg.symm.trans hg');obtain rfl:=Option.some.inj (hty.symm.trans ht')
 have key:∃ u v,cs.toList=[.iface u v]:=by
  cases fuel with
  | zero=>simp [DataW.trod] at hd
  | succ n =>
    unfold DataW.trod at hd;rw [ht] at hd
    split at hd <;> simp_all
 obtain ⟨u,v,hc⟩:=key;exact ⟨u,v,by rw [hvar,Array.eq_one_of_toList hc]⟩
theorem gTab:Tryz.prog.globalNamed "internal/strconv.uint64pow10" =some 1:=by kernel_rfl
theorem kJ5:(Tryz.prog.globals[1]?).map (·.type)=some 351:=by kernel_rfl
theorem kKI:Tryz.prog.cellsOf 351=20:=by kernel_rfl
theorem kKH:Tryz.prog.cellsOf 212=1:=by kernel_rfl
theorem env_of {W:World} (hL:laidMetH Tryz.prog Rows.typesTextUptoRow.laid W) (hsh:W.ShapedOpen Tryz.prog):Env W where
 sx:=kED (g:=4) (tn:= "*errors.errorString") (by kernel_rfl) (by kernel_rfl) underlying192 (kDS "strconv.ErrSyntax" hL (x:=("strconv.ErrSyntax",Rows.laid_strconv_ErrSyntax)) (by kernel_rfl) (by kernel_rfl))
 rg:=kED (g:=5) (tn:= "*errors.errorString") (by kernel_rfl) (by kernel_rfl) underlying192 (kDS "strconv.ErrRange" hL (x:=("strconv.ErrRange",Rows.laid_strconv_ErrRange)) (by kernel_rfl) (by kernel_rfl))
 ten:=Lib.tabIs_of_head (rest:=[]) gTab kJ5 underlying351 underlying212 kKH kKI (kDS "internal/strconv.uint64pow10" hL (x:=("internal/strconv.uint64pow10",Lib.tabData .u64 Lib.pow10Tab)) (by kernel_rfl) (by kernel_rfl))
 big:=by
  have h7:(((begin Tryz.prog (fun _ _=>0) default).world.heap[7]?).bind Obj.row?).isSome=true:=by kernel_rfl
  obtain ⟨⟨z,t⟩,e⟩:=Option.isSome_iff_exists.1 h7;obtain ⟨cs,hc,_⟩:=hsh.1 7 z t (of_decide_eq_true (by kernel_rfl)) e;rcases Nat.lt_or_ge 7 W.heap.size with q | q
  · omega
  · rw [Array.getElem?_eq_none q] at hc;cases hc
theorem envM_of {W:World} (hL:laidMetH Tryz.prog Rows.typesTextUptoRow.laid W) (hsh:W.ShapedOpen Tryz.prog):EnvM W:=⟨env_of hL hsh,Tryz.laysM146.s1_3 W hsh⟩
theorem kKE (H:Type) (enc:TypeId × Value→H) (W:World) (base:Nat) (args:Array Value) (ds gs:List (DataW H)) (before:List MemPlace)
 (hval0:∀ (j:Nat) t v,Tryz.f6.params[j]? =some t→args[j]? =some v→Value.okWide Tryz.prog W .any base t v)
 (hW:DataW.Whole enc Tryz.prog Tryz.f6.params.toList Rows.typesTextSpec.vars false W args.toList ds gs before) (hk:Rows.uptoSmall H (ds++gs)=true) (hL:laidMetH Tryz.prog Rows.typesTextUptoRow.laid W) (hsh:W.ShapedOpen Tryz.prog) :
 Calls Tryz.prog 6 args W fun e W'=>∃ v,e= .returned v∧Rows.typesTextSpec.post enc Tryz.prog Tryz.f6 false true false false W args v W':=by
 have hval:∀ (j:Nat) t v,Tryz.f6.params[j]? =some t→args[j]? =some v→Value.okWide Tryz.prog W .any base t v:=hval0;have hW':=hW;obtain ⟨p,q,hA0,hV,rfl,hfz,hnd⟩:=hW;have hA:DataW.TrodAll enc Tryz.prog W 0 (fun _=>true) true Tryz.f6.params.toList args.toList ds p:=hA0;rw [Tryz.params6] at hA hval;obtain ⟨v0,vs0,d0,ds0,p0,q0,hargs,rfl,rfl,h0,r0⟩:=trodAll_cons hA;obtain ⟨v1,vs1,d1,ds1,p1,q1,hargs1,rfl,rfl,h1,r1⟩:=trodAll_cons r0;obtain ⟨rfl,rfl,rfl⟩:=trodAll_nil r1;subst hargs1;obtain rfl:args= #[v0,v1]:=by cases args;simp_all
 obtain ⟨rfl,rfl⟩:=trodVars_none hV;obtain ⟨cs,rfl,hcs⟩:=okWide_struct underlying26 (hval 0 _ v0 rfl rfl);obtain ⟨s,rfl⟩:=okWide_string underlying9 (hval 1 _ v1 rfl rfl);have k1:=h1;have lt1:∀ x ∈ p1,x.block<W.heap.size:=by obtain ⟨m,hm⟩:=k1;exact DataW.trod_lt m _ _ _ hm
 have k0:=h0;have lt0:∀ x ∈ p0,x.block<W.heap.size:=by obtain ⟨m,hm⟩:=k0;exact DataW.trod_lt m _ _ _ hm
 have hb2:Rows.uptoBulk d0≤1048576∧Rows.uptoBulk d1≤1048576:=by
  have h:=of_decide_eq_true hk;simp only [List.append_nil,Rows.uptoBulkAll] at h;omega
 have hb:=hb2.1;obtain ⟨fuel1,hf1⟩:=h1;obtain ⟨s3,hc3,hd3,hs3⟩:=DataW.trod_string underlying9 hf1;replace hc3:[Value.string s]=[.string s3]:=hc3;cases hc3
 have hs4:s.size≤1048576:=by
  have h:=hb2.2;obtain rfl:d1= .lit (.string s.data.toList):=congrArg Prod.fst hd3;rw [bulk_str] at h;omega
 obtain ⟨fuel,hf⟩:=h0;obtain ⟨⟨y,hrd,hg⟩,_⟩:=kJX hf hb;have hcs9:cs=cs.toList.toArray:=by simp
 clear hA0 hval0;rw [hcs9];refine (law12_Text hrd (fun d hd t ht=>Nat.le_trans (hg.2.2 d hd t ht) (by decide)) (Nat.le_trans hg.2.1 (by decide)) (Nat.le_trans hg.1 (by decide)) (envM_of hL hsh)).mono fun e W' ⟨he,bel⟩=>?_
 subst he;exact ⟨_,rfl,_,_,_,[],_,[],hW',trodAll_mk1 (shut_bool underlying4 _),(trodAll_cons_mk (Below.trod kEQ (by kernel_rfl) (of_decide_eq_true (by kernel_rfl)) k0 bel lt0) (trodAll_cons_mk (Below.trod kEQ (by kernel_rfl) (of_decide_eq_true (by kernel_rfl)) k1 bel lt1) trodAll_mk0)),rfl,bel.frame _,fun h=>by cases h⟩
abbrev textR:ByteArray:= { data:=#[118,97,108,117,101,32,111,117,116,32,111,102,32,114,97,110,103,101] }
abbrev kBO:ByteArray:= { data:=#[105,110,118,97,108,105,100,32,115,121,110,116,97,120] }
def leaf:DataW Unit→Value
 | .lit (.int k n)=>.int k n
 | _=>.nilIface
def flat1:DataW Unit→List Value
 | .agg ds=>ds.map leaf
 | d=>[leaf d]
def kHW:DataW Unit→List Value
 | .agg ds=>ds.flatMap flat1
 | d=>[leaf d]
def kE9 (g:Nat) (row:List Value) (h:Array Obj):Array Obj:=h.modify g fun
 | .cells _ t frozen=>.cells row.toArray t frozen
 | o=>o
noncomputable def low:Nat:=(World.holding Tryz.prog default ⟨#[],#[],[]⟩).heap.size
noncomputable def kB7 (os:Os):World :=
 let w0:=World.holding Tryz.prog os ⟨#[.cells #[.string textR] 422,.cells #[.string kBO] 422],#[],[]⟩
 { w0 with heap:=kE9 6 (kHW Rows.laid_math_bits_deBruijn32tab) (kE9 7 (kHW Rows.laid_math_bits_deBruijn64tab) (kE9 1 (kHW Rows.laid_internal_strconv_uint64pow10) (kE9 3 (kHW Rows.laid_unicode_utf8_acceptRanges) (kE9 2 (kHW Rows.laid_unicode_utf8_first)
   (kE9 5 [.iface 420 (.pointer (some ⟨low,0,none⟩))] (kE9 4 [.iface 420 (.pointer (some ⟨low+1,0,none⟩))] w0.heap)))))) }
abbrev arg0:Value:=.agg #[.string ⟨#[]⟩,.string ⟨#[]⟩,.slice none 0 0]
abbrev arg1:Value:=.string ⟨#[]⟩
theorem kJ3 (os:Os):laidMet Tryz.prog Rows.typesTextUptoRow.laid ((kB7 os).forCall (fun _ _=>0) ⟨#[],#[arg0,arg1],[]⟩).memory :=
 laidMet_of_run' 8 (by kernel_rfl) (by kernel_rfl)
theorem reads (os:Os) {H:Type} (enc:TypeId × Value→H):∃ kIQ,DataW.whole enc Tryz.prog ((kB7 os).forCall (fun _ _=>0) ⟨#[],#[arg0,arg1],[]⟩).memory Tryz.f6.params.toList Rows.typesTextSpec.vars false #[arg0,arg1].toList 8=some ([.agg [.lit (.string []),.agg [.lit (.string []),.nil]],.lit (.string [])],[],kIQ) :=
 ⟨[],by kernel_rfl⟩
end Go.Proofs.YtkndimjghfomcaaGreatDoor.typesText
namespace Go.Proofs.YtkndimjghfomcaaGreatDoor.typesText
open Go.Proofs.Tryz
open Go.ChangeShapes Go.WideShapes Go.ChangeAt Go.RowKit
theorem k0:(Rows.typesTextUptoRow.inPlace==Tryz.pinned.checked.prog.inPlace 6)=true:=by kernel_rfl
theorem k1:(Rows.typesTextUptoRow.unfollowed==Tryz.pinned.checked.prog.unfollowed 6)=true:=by kernel_rfl
end Go.Proofs.YtkndimjghfomcaaGreatDoor.typesText
namespace Go.Proofs.YtkndimjghfomcaaGreatDoor.typesText
open Go.Proofs.Tryz
open Go.ChangeShapes Go.WideShapes Go.ChangeAt Go.RowKit
theorem k2:(Rows.typesTextUptoRow.recurses==Tryz.pinned.checked.prog.recurses 6)=true:=by kernel_rfl
theorem k3:(Rows.typesTextUptoRow.named==Tryz.pinned.checked.prog.varsNamed 6)=true:=by kernel_rfl
end Go.Proofs.YtkndimjghfomcaaGreatDoor.typesText
namespace Go.Proofs.YtkndimjghfomcaaGreatDoor.typesText
open Go.Proofs.Tryz
open Go.ChangeShapes Go.WideShapes Go.ChangeAt Go.RowKit
theorem closed:joinedFacts Tryz.pinned.checked.prog 6 Tryz.f6 (Rows.OpenSpec.upto Rows.typesTextSpec).bare Rows.typesTextUptoRow=true:=kHU _ _ _ _ _ k0 k1 k2 k3 kEQ (by kernel_rfl) (by kernel_rfl) (by kernel_rfl)
end Go.Proofs.YtkndimjghfomcaaGreatDoor.typesText
namespace Go.Proofs.YtkndimjghfomcaaGreatDoor.typesText
open Go.Proofs.Tryz
open Go.ChangeShapes Go.WideShapes Go.ChangeAt Go.RowKit
theorem kHT (os:Os):laidMetH Tryz.prog Rows.typesTextUptoRow.laid ((kB7 os).forCall (fun _ _=>0) ⟨#[],#[arg0,arg1],[]⟩).memory :=
 laidMetH_iff.2 ⟨by
  rw [show (Rows.typesTextUptoRow.laid.filter fun x=>x.2.handleName?.isNone)=Rows.typesTextUptoRow.laid from by kernel_rfl]
  exact kJ3 os,by
  rw [show (Rows.typesTextUptoRow.laid.filter fun x=>x.2.handleName?.isSome)=[] from by kernel_rfl];exact fun x hx=>absurd hx (List.not_mem_nil)⟩
theorem kGF (os:Os) (started:os.Started) (H:Type) (enc:TypeId × Value→H) (F:Stop.Interp) :
 ReturnsInHanded {} Tryz.checked os 6 .any ((Rows.OpenSpec.upto Rows.typesTextSpec).preRow enc Tryz.prog Tryz.f6 Rows.typesTextUptoRow.domain false Rows.typesTextUptoRow.laid) (((Rows.OpenSpec.upto Rows.typesTextSpec).at F).post enc Tryz.prog Tryz.f6 false true false false):=by
 obtain ⟨kIQ,hx⟩:=reads os enc
 refine returnsInHanded_of_row (C:=Tryz.checked) (s:=Rows.OpenSpec.upto Rows.typesTextSpec) own started (by kernel_rfl) func6
  (witness_row_at (enc:=enc) (C:=Tryz.checked) false (kB7 os) #[arg0,arg1] rfl (by kernel_rfl) (by kernel_rfl) (by kernel_rfl)
    (OpenSpec.preRow_of_cond 8 hx (by kernel_rfl) (fun k hk=>by cases hk;kernel_rfl) (by kernel_rfl) (kHT os))) ?_
 intro W base args ds gs before hval hW _ hcond _ hL hsh _;exact kKE H enc W base args ds gs before hval hW (hcond _ rfl) hL hsh
theorem kJQ:Rows.TypesTextUptoSaid :=
 OpenClaim.holds_of_cond 6 Tryz.f6 rfl rfl rfl rfl rfl rfl rfl ⟨rfl,rfl,rfl,rfl,rfl⟩ rfl rfl rfl rfl rfl (by kernel_rfl) func6 closed
  (of_decide_eq_true (by kernel_rfl)) (by unfold Func.isWrapper;first | (rw [if_pos (by decide +kernel)];kernel_rfl) | (rw [if_neg (by decide +kernel)];exact ⟨rfl,rfl⟩))
  (fun os started H enc _ F=>by rw [OpenClaim.pre_eq_preRow];exact kGF os started H enc F)
theorem plain (f:FuncId) (fn:Func) (hf:Tryz.pinned.checked.prog.funcNamed "framewise/framewiselaw12.TypesText" =some f) (hfn:Tryz.pinned.checked.prog.funcs[f]? =some fn) :
 true=Tryz.pinned.checked.prog.looks []∧∀ (j:Nat) t,fn.params[j]? =some t→Tryz.pinned.checked.prog.wantsStandIn t=false:=by
 obtain rfl:f=6:=Option.some.inj ((show Tryz.prog.funcNamed "framewise/framewiselaw12.TypesText" =some 6 by kernel_rfl).symm.trans hf) |>.symm
 obtain rfl:fn=Tryz.f6:=(Option.some.inj (func6.symm.trans hfn)).symm;refine ⟨by kernel_rfl,fun j t ht=>?_⟩;rw [Tryz.params6] at ht;have hm:t=26∨t=9:=by simpa using Array.mem_of_getElem? ht
 rcases hm with rfl | rfl
 · exact (show Tryz.prog.wantsStandIn 26=false by kernel_rfl)
 · exact (show Tryz.prog.wantsStandIn 9=false by kernel_rfl)
theorem byText:Rows.typesTextUptoRow.wfByText (Rows.OpenSpec.upto Rows.typesTextSpec)=true:=by kernel_rfl
theorem goesNot:false=Rows.typesTextUptoRow.goesBy Tryz.pinned.checked.prog:=kJA rfl (by kernel_rfl)
theorem cardUpto:Rows.TypesTextUptoCardSaid :=
 Claim7.holds_tied_plain_at .later [] _ _ _ _ kJQ (fun _ h=>by cases h) byText (fun _ h=>by cases h) typesTextUpto_row_tie rfl ⟨rfl,rfl⟩ (by kernel_rfl) rfl plain goesNot
end Go.Proofs.YtkndimjghfomcaaGreatDoor.typesText
