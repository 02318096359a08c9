/-
  Texts joined: TpBc TpBd TpBe. No law is proved here.
-/
import Derived.Test.YtnmpfmapncicmaaGreatB34
import Derived.Test.YtnmpfmapncicmaaGreatB39
namespace Go.Proofs.YtnmpfmapncicmaaGreat
set_option linter.all false
set_option maxRecDepth 100000
set_option maxHeartbeats 40000000
open Go.RowKit
def sL (s:List UInt8):List Value:=[.string (bsL s)]
theorem sL_len (s:List UInt8):(sL s).length=1:=rfl
theorem sL_one (s:List UInt8):∀ u∈sL s,u.oneCell'=true:=by
 intro u hu
 simp only[sL,List.mem_cons,List.not_mem_nil,or_false] at hu
 subst hu;rfl
theorem info_str:(Tryz.prog.info? 9).map (fun i=>(i.zero,i.size,i.bytes))=some (some (.string ⟨#[]⟩),1,16):=by kernel_rfl
theorem s_flat (acc:List (List UInt8)) (t:List UInt8):(acc++[t]).flatMap sL=acc.flatMap sL++sL t:=by simp
theorem subL_snoc {l:List UInt8} {a i:Nat} {c:UInt8} (hc:l[i]?=some c) (h:a≤i):Cs l a (i+1)=Cs l a i++[c]:=by
 unfold Cs
 rw[show i+1 - a=(i - a)+1 by omega,List.take_add_one,List.getElem?_drop,show a+(i - a)=i by omega,hc]
 rfl
theorem subL_nil (l:List UInt8) (a:Nat):Cs l a a=[]:=by unfold Cs;rw[Nat.sub_self,List.take_zero]
theorem drop_at {l:List UInt8} {i:Nat} {c:UInt8} (hc:l[i]?=some c):l.drop i=c :: l.drop (i+1):=by
 rw[List.drop_eq_getElem_cons (AJ hc)]
 congr 1
 rw[List.getElem?_eq_getElem (AJ hc)] at hc
 exact Option.some.inj hc
theorem lines_any' (l:List UInt8) (w:World) (hl:l.length≤8192) (hend:∀ c,l[l.length - 1]?=some c→c.toNat=10):Calls Tryz.prog 178 #[.string (bsL l)] w
    (fun e w'=>∃ v,e=.returned v∧w'.ownsRow w.heap.size 9 1 v (EF l []).length ((EF l []).flatMap sL)∧Below w.heap.size w w'):=by
 obtain⟨i0,hi,iz0,iz1,iz2⟩:=info_parts info_str
 have hsz:=BI l
 obtain⟨n,hn⟩:∃ n,l.length=n:=⟨_,rfl⟩
 rw[hn] at hsz hl hend
 have HE:=lh hend;clear hend
 have HN:=lh hn;clear hn
 go_in
 go_wp2_with fail
 go_loopw [3,4,5] (fun v f i wr=>∃ (k from_:Nat) (acc:List (List UInt8)),k≤n∧from_≤k∧i=.int .i64 k∧f=.int .i64 from_∧acc++EF (l.drop k) (Cs l from_ k)=EF l []∧acc.length≤k∧(k=n→from_=n)∧wr.ownsRow w.heap.size 9 1 v acc.length (acc.flatMap sL)∧Below w.heap.size w wr) (fun _ _ i _=>n - (intOf i).toNat)
 case atStart=>exact⟨0,0,[],Nat.zero_le _,nlr _,rfl,rfl,by rw[subL_nil];rfl,nlr _,fun h=>h,World.ownsRow_nil _ _ _ _,bel⟩
 case round =>
  obtain⟨k,f,acc,hk,hf,rfl,rfl,hgo,hal,hkn,hown,hbw⟩:=hrel
  have hbs0:=hbw.size
  have HO:=lh hown;clear hown
  by_cases hlt:k<n
  · obtain⟨c,hc⟩:=A6 (xs:=l) (k:=k) (by rw[HN.out];exact hlt)
    rw[drop_at hc,EF] at hgo
    by_cases h10:c.toNat=10
    · rw[if_pos h10] at hgo
      have b1:((c.toNat:Int) == 10)=true:=by rw[h10];rfl
      have HC:=lh hc
      have HG:=lh hgo
      clear hc hgo h10 hkn
      have L:=Lay.start wr
      obtain⟨wz,hwz⟩:∃ wz,wr=wz:=⟨_,rfl⟩
      have HWZ:=lh hwz
      clear hwz
      go_wp2_with (first|(refine Ad rfl (Ax (l:=l) rfl rfl rfl τ9 HC.out) ?_)|(refine Ad rfl (CZ (l:=l) (i:=f) (j:=k) (m:=Cs l f k) rfl rfl rfl rfl τ9 (by omega) (by rw[HN.out];omega) rfl) ?_)|(at_builtin;refine wpList_append_own _ rfl (.tmp 16) (.tmp 21) 92 rfl w.heap.size 9 i0 (.string ⟨#[]⟩) 1 16 τ92 hi iz0 iz1 iz2 rfl (by decide) _ acc.length (acc.flatMap sL) rfl (World.ownsRow.alloc HO.out _) ⟨wr.heap.size,0,none⟩ 1 1 (sL (Cs l f k)) rfl rfl (A8 _ (sL (Cs l f k)) _ _ (by first|rfl|simp only[sizes])) (sL_one _) (by unfold maxLen;omega) (by omega) (by first|exact nlr _|omega|(simp only[sizes];done)|(simp only[sizes];omega)) ?_;intro v3 w3 hown3 hgrow3 _;have hb3:=A4 bel (World.ownsRow.alloc HO.out _) hgrow3;have hz3:=hb3.size))
      go_roundw
      case rel=>exact⟨k+1,k+1,acc++[Cs l f k],by omega,nlr _,by go_num,by go_num,by rw[subL_nil,List.append_assoc];exact HG.out,by rw[List.length_append];show acc.length+1≤k+1;omega,fun h=>h,by rw[s_flat,List.length_append];exact hown3,hb3⟩
      case measure=>simp [intOf];omega
    · rw[if_neg h10] at hgo
      have b1:((c.toNat:Int) == 10)=false:=by simp;omega
      have hlast:k+1≠n:=fun e=>h10 (HE.out c (by rw[show n - 1=k by omega];exact hc))
      rw[←subL_snoc hc hf] at hgo
      have HC:=lh hc
      have HG:=lh hgo
      clear hc hgo h10 hkn
      go_wp2_with (refine Ad rfl (Ax (l:=l) rfl rfl rfl τ9 HC.out) ?_)
      go_roundw
      case rel=>exact⟨k+1,f,acc,by omega,by omega,by go_num,rfl,HG.out,by omega,fun h=>absurd h hlast,HO.out,hbw⟩
      case measure=>simp [intOf];omega
  · obtain rfl:k=n:=by omega
    obtain rfl:f=k:=hkn rfl
    have hres:acc=EF l []:=by
     rw[List.drop_eq_nil_of_le (by rw[HN.out];exact nlr _),subL_nil,show EF [] []=[] from rfl,List.append_nil] at hgo
     exact hgo
    have HR:=lh hres
    clear hres hgo hkn
    go_wp2_with fail
    go_ret
    exact⟨_,rfl,by rw[←HR.out];exact HO.out,hbw⟩
/-! ## Labels -/
def lbL (b:Lb):List Value:=[.string (bsL b.t),.int .u32 b.a]
theorem lbL_len (b:Lb):(lbL b).length=2:=rfl
theorem lbL_one (b:Lb):∀ u∈lbL b,u.oneCell'=true:=by
 intro u hu
 simp only[lbL,List.mem_cons,List.not_mem_nil,or_false] at hu
 rcases hu with rfl|rfl <;> rfl
theorem info_sym:(Tryz.prog.info? 274).map (fun i=>(i.zero,i.size,i.bytes))=some (some (.agg #[.string ⟨#[]⟩,.int .u32 0]),2,24):=by kernel_rfl
theorem lb_flat (acc:List Lb) (t:Lb):(acc++[t]).flatMap lbL=acc.flatMap lbL++lbL t:=by simp
def adrV (o:Option Nat):Value:=match o with
 | some r=>.tuple #[.int .u32 r,.bool true]
 | none=>.tuple #[.int .u32 0,.bool false]
theorem Jt (bs:List Lb) (t:List UInt8) (va:Value) (w:World) (ha:RdS lbL 2 w va bs) (hl:bs.length≤10000):Calls Tryz.prog 109 #[va,.string (bsL t)] w (Same w (adrV (Dq bs t))):=by
 obtain⟨ao,cap,rfl,hcap,hmax,ha⟩:=ha.open
 unfold maxLen at hmax
 obtain⟨o,ho⟩:∃ o,Dq bs t=o:=⟨_,rfl⟩
 rw[ho]
 have HOO:=lh ho
 obtain⟨n,hn⟩:∃ n,bs.length=n:=⟨_,rfl⟩
 rw[hn] at hl hcap ha ⊢
 have HN:=lh hn;clear hn ho
 have HA:=lh ha;clear ha
 go_in
 go_wp2_with fail
 go_loopw [6] (fun i wr=>∃ k:Nat,k≤n∧i=.int .i64 k∧Dq (bs.drop k) t=o∧wr=w) (fun i _=>n - (intOf i).toNat)
 case atStart=>exact⟨0,Nat.zero_le _,rfl,HOO.out,rfl⟩
 case round =>
  obtain⟨k,hk,rfl,hgo,rfl⟩:=hrel
  by_cases hlt:k<n
  · obtain⟨x,hx⟩:=A6 (xs:=bs) (k:=k) (by rw[HN.out];exact hlt)
    have e1:bs.drop k=x :: bs.drop (k+1):=by
     rw[List.drop_eq_getElem_cons (AJ hx)];congr 1
     rw[List.getElem?_eq_getElem (AJ hx)] at hx;exact Option.some.inj hx
    rw[e1,Dq] at hgo
    obtain⟨hxx,b,off,rfl,hbl,_,_,hcell⟩:=HA.out.at (by omega)
    clear hxx e1
    have HC0:=lh (hcell k x hx 0 _ rfl)
    have HC1:=lh (hcell k x hx 1 _ rfl)
    clear hcell hx
    by_cases ht:x.t=t
    · rw[if_pos ht] at hgo
      have hq:(x.t == t)=true:=by simpa using ht
      have HQ:=lh hq
      have HG:=lh hgo
      clear hq hgo ht
      go_wp2_with (first|(refine Ad rfl (Au (ty:=9) (u:=.string (bsL x.t)) rfl rfl τ9 rfl HC0.out) ?_)|(refine Ad rfl (Au (ty:=25) (u:=.int .u32 x.a) rfl rfl τ25 rfl HC1.out) ?_)|(refine Ad rfl (Aj rfl rfl rfl HQ.out) ?_))
      go_ret2
      rw[←HG.out]
      exact Same.mk
    · rw[if_neg ht] at hgo
      have hq:(x.t == t)=false:=by simpa using ht
      have HQ:=lh hq
      have HG:=lh hgo
      clear hq hgo ht
      go_wp2_with (first|(refine Ad rfl (Au (ty:=9) (u:=.string (bsL x.t)) rfl rfl τ9 rfl HC0.out) ?_)|(refine Ad rfl (Aj rfl rfl rfl HQ.out) ?_))
      go_roundw
      case rel=>exact⟨k+1,by omega,by go_num,HG.out,trivial⟩
      case measure=>simp [intOf];omega
  · obtain rfl:k=n:=by omega
    rw[List.drop_eq_nil_of_le (by rw[HN.out];exact nlr _)] at hgo
    have HG:=lh (show none=o from hgo)
    clear hgo
    go_wp2_with fail
    go_ret2
    rw[←HG.out]
    exact Same.mk
theorem or_add {hi lo:Int} (k:Nat) (h0:0≤hi) (l0:0≤lo) (l1:lo<2 ^ k) (h1:hi*2 ^ k+lo<4294967296):bits .or .u32 (hi*2 ^ k) lo=hi*2 ^ k+lo:=by
 obtain⟨h,rfl⟩:∃ h:Nat,hi=h:=⟨hi.toNat,by omega⟩
 obtain⟨l,rfl⟩:∃ l:Nat,lo=l:=⟨lo.toNat,by omega⟩
 have hl : l < 2 ^ k := by have : (l : Int) < ((2 ^ k : Nat) : Int) := by rw [Int.natCast_pow]; exact l1
                           omega
 have hA:h*2 ^ k+l<4294967296:=by
  have:((h*2 ^ k+l:Nat):Int)<4294967296:=by rw[Int.natCast_add,Int.natCast_mul,Int.natCast_pow];exact h1
  omega
 have hx:h*2 ^ k<4294967296:=by omega
 have e0:(h:Int)*2 ^ k=((h*2 ^ k:Nat):Int):=by rw[Int.natCast_mul,Int.natCast_pow];rfl
 rw[e0]
 show IntKind.u32.wrap ((BitVec.ofInt 32 ((h*2 ^ k:Nat):Int) ||| BitVec.ofInt 32 (l:Int)).toNat:Int)=_
 have e1:(BitVec.ofInt 32 ((h*2 ^ k:Nat):Int)).toNat=h*2 ^ k:=by rw[BitVec.ofInt_natCast,BitVec.toNat_ofNat];exact Nat.mod_eq_of_lt hx
 have e2:(BitVec.ofInt 32 (l:Int)).toNat=l:=by rw[BitVec.ofInt_natCast,BitVec.toNat_ofNat];exact Nat.mod_eq_of_lt (by omega)
 have e3:h*2 ^ k ||| l=h*2 ^ k+l:=by
  rw[←Nat.shiftLeft_eq,←Nat.shiftLeft_add_eq_or_of_lt hl]
 rw[BitVec.toNat_or,e1,e2,e3,IntKind.wrap_u32]
 omega
theorem Xz115 {P:Prop} (h:P:=by
  rcases c0 with c0|c0
  · left
    unfold loF at m0;unfold hiF at m1
    rw[c0] at m0 m1
    simp at m0 m1
    omega
  · exact .inr c0):P:=h
theorem CH (i:In) (w:World) (hv:FM i=true):Calls Tryz.prog 110 #[.agg (inL i).toArray] w (Ret w (.tuple #[.int .u32 (Dr i),.bool true])):=by
 have hq:=of_decide_eq_true hv
 obtain⟨f0,ra,rb,rc,m0,m1,c0,a0,b0⟩:=hq
 have ra:=of_decide_eq_true ra
 have rb:=of_decide_eq_true rb
 have rc:=of_decide_eq_true rc
 have hop:1≤i.op∧i.op≤64:=by
  unfold A2 at f0
  repeat' split at f0
  all_goals omega
 have hlo : -32768≤i.imm:=by unfold loF at m0;split at m0 <;> omega
 have hhi:i.imm≤65535:=by unfold hiF at m1;repeat' split at m1 <;> omega
 have hz:i.imm % 65536=0∨i.c=0:=by
  exact Xz115
 have HV:=lh (fun w=>Eu (w:=w) (i:=i) (by omega) (by omega))
 rw[hv] at HV
 have e1:bits .or .u32 (i.op*16777216) (i.a*1048576)=i.op*16777216+i.a*1048576:=or_add 24 (by omega) (by omega) (by omega) (by omega)
 have e2:bits .or .u32 (i.op*16777216+i.a*1048576) (i.b*65536)=i.op*16777216+i.a*1048576+i.b*65536:=by
  have:=or_add (hi:=i.op*16+i.a) (lo:=i.b*65536) 20 (by omega) (by omega) (by omega) (by omega)
  rw[show (i.op*16+i.a)*2 ^ 20=i.op*16777216+i.a*1048576 by omega] at this
  exact this
 have e3:bits .or .u32 (i.op*16777216+i.a*1048576+i.b*65536) (i.imm % 65536)=i.op*16777216+i.a*1048576+i.b*65536+i.imm % 65536:=by
  have:=or_add (hi:=i.op*256+i.a*16+i.b) (lo:=i.imm % 65536) 16 (by omega) (by omega) (by omega) (by omega)
  rw[show (i.op*256+i.a*16+i.b)*2 ^ 16=i.op*16777216+i.a*1048576+i.b*65536 by omega] at this
  exact this
 have e4:bits .or .u32 (i.op*16777216+i.a*1048576+i.b*65536+i.imm % 65536) i.c=Dr i:=by
  unfold Dr
  rcases hz with hz|hz
  · have:=or_add (hi:=i.op*256+i.a*16+i.b) (lo:=i.c) 16 (by omega) (by omega) (by omega) (by omega)
    rw[show (i.op*256+i.a*16+i.b)*2 ^ 16=i.op*16777216+i.a*1048576+i.b*65536 by omega] at this
    rw[hz,Int.add_zero]
    exact this
  · rw[hz,Int.add_zero]
    have:=or_add (hi:=i.op*16777216+i.a*1048576+i.b*65536+i.imm % 65536) (lo:=0) 0 (by omega) (by omega) (by omega) (by omega)
    rw[show (i.op*16777216+i.a*1048576+i.b*65536+i.imm % 65536)*2 ^ 0=i.op*16777216+i.a*1048576+i.b*65536+i.imm % 65536 by omega,Int.add_zero] at this
    exact this
 have e5:bits .and .u32 (i.imm % 4294967296) 65535=i.imm % 65536:=by rw[Hk (by omega) (by omega)];omega
 have H1:=lh e1;have H2:=lh e2;have H3:=lh e3;have H4:=lh e4;have H5:=lh e5
 clear e1 e2 e3 e4 e5 hz hv f0 m0 m1 c0 a0 b0
 have hia0:=ra.1;have hia1:=ra.2;have hib0:=rb.1;have hib1:=rb.2;have hic0:=rc.1;have hic1:=rc.2
 have ho0:=hop.1;have ho1:=hop.2
 clear ra rb rc hop
 have L:=Lay.start w
 go_in
 go_wp2_with (first|(refine YL ?_)|(refine YS ?_;clear L;intro wz L))
 rw[H5.out,H1.out,H2.out,H3.out,H4.out]
 go_ret2
 exact Ret.mk L.bel
theorem D7 {i:In} (h:okI i=true):FM i=true:=by
 have h:=of_decide_eq_true h
 obtain⟨h1,h2,h3,h4,h5⟩:=h
 exact decide_eq_true ⟨h1,decide_eq_true h2,decide_eq_true h3,decide_eq_true h4,h5⟩
theorem Cu {w0 w:World} {l:List Bx} {cs:List (Nat×Nat×Value)} (L:Lay w0 w l) (h:∀ c∈cs,c.1<w0.heap.size∧w0.cell? ⟨c.1,c.2.1,none⟩=some c.2.2):KeptC [] cs w :=
 KeptC.none (fun c hc=>(L.bel.cell (p:=⟨c.1,c.2.1,none⟩) (h c hc).1).trans (h c hc).2)
theorem DH {l:List Ar} {k:Nat} {a:Ar} (h:l[k]?=some a):EU l k=a.reg∧numA l k=a.num:=by unfold EU numA;rw[h];exact⟨rfl,rfl⟩
theorem inst_three (st:St) (va:Value) (v:Int) (w:World) (ha:RdS arL 3 w va st.l) (hok:okI (Bz st v)=true) (hf2:A2 st.op=2) (hn3:3≤st.l.length):Calls Tryz.prog 111 #[.agg (stL st va).toArray,.int .i64 v] w (Ret w (.tuple #[.int .u32 (Dr (Bz st v)),.bool true])):=by
 obtain⟨x0,h0⟩:=A6 (xs:=st.l) (k:=0) (by omega)
 obtain⟨x1,h1⟩:=A6 (xs:=st.l) (k:=1) (by omega)
 obtain⟨x2,h2⟩:=A6 (xs:=st.l) (k:=2) (by omega)
 have HE:=lh (fun w=>CH (Bz st v) w (D7 hok))
 have hokk:=of_decide_eq_true hok
 have HF:=lh (fun w=>BC st.op w)
 obtain⟨f,hf⟩:∃ f,A2 (st.op:Int)=f:=⟨_,rfl⟩
 have hfb:=Ft (st.op:Int)
 rw[hf] at HF hfb
 have HB:=lh (fun w=>Df f w hfb.1 hfb.2)
 have hlo : -32768≤loF f∧loF f≤0:=by unfold loF;split <;> omega
 have hhi:0≤hiF f∧hiF f≤65535:=by unfold hiF;repeat' split <;> omega
 obtain⟨ao,cap,rfl,hcap,hmax,ha⟩:=ha.open
 unfold maxLen at hmax
 obtain⟨n,hn⟩:∃ n,st.l.length=n:=⟨_,rfl⟩
 rw[hn] at hcap ha ⊢
 have ei:Bz st v=⟨st.op,x0.reg,x1.reg,x2.reg,0⟩:=by
  unfold Bz
  rw[if_pos hf2,(DH h0).1,(DH h1).1,(DH h2).1]
 rw[ei] at HE ⊢
 obtain rfl:f=2:=by rw[←hf];exact hf2
 obtain⟨hxx,b,off,rfl,hbl,_,_,hcell⟩:=ha.at (by omega)
 have HC:=lh (show ∀ c∈[(b,off,Value.int .i64 x0.reg),(b,off+3,Value.int .i64 x1.reg),(b,off+6,Value.int .i64 x2.reg)],c.1<w.heap.size∧w.cell? ⟨c.1,c.2.1,none⟩=some c.2.2 from fun c hc=>by
  simp only[List.mem_cons,List.not_mem_nil,or_false] at hc
  rcases hc with rfl|rfl|rfl
  · exact⟨hbl,by have:=hcell 0 x0 h0 0 _ rfl;simpa using this⟩
  · exact⟨hbl,by have:=hcell 1 x1 h1 0 _ rfl;simpa using this⟩
  · exact⟨hbl,by have:=hcell 2 x2 h2 0 _ rfl;simpa using this⟩)
 clear hxx hcell ha h0 h1 h2 hok hokk ei hf2 hf hfb hlo hhi
 have n0:0<n:=by omega
 have n1:(1:Int)<n:=by omega
 have n2:(2:Int)<n:=by omega
 clear hn hn3
 have L:=Lay.start w
 go_in
 go_upto_region 6 with (first|(refine YL ?_)|(refine YS ?_;clear L;intro wz L))
 (try simp only[Act.put,q4,s0,s1])
 have hHeld:=(fun w' L=>Cu (w:=w') L HC.out) _ L.drew
 refine wp_region_held_drew (by kernel_rfl) hHeld (fun hHeld=>?_)
 replace L:=L.drew
 refine YT ?_
 refine wpAnyH_take (i:=3) (v:=.int .i64 x0.reg) rfl (by kernel_rfl) (by kernel_rfl) (by kernel_rfl) (fun _ _ _ h=>h) (AG (ty:=3) 0 rfl (by rfl) rfl rfl τ3 rfl) (by assumption) ?_
 (try simp only[q1,q2,q3,Act.put,q4,s0,s1])
 refine YT ?_
 refine wpAnyH_take (i:=7) (v:=.int .i64 x1.reg) rfl (by kernel_rfl) (by kernel_rfl) (by kernel_rfl) (fun _ _ _ h=>h) (AG (ty:=3) 1 rfl (by rfl) rfl rfl τ3 rfl) (by assumption) ?_
 (try simp only[q1,q2,q3,Act.put,q4,s0,s1])
 refine YT ?_
 refine wpAnyH_take (i:=11) (v:=.int .i64 x2.reg) rfl (by kernel_rfl) (by kernel_rfl) (by kernel_rfl) (fun _ _ _ h=>h) (AG (ty:=3) 2 rfl (by rfl) rfl rfl τ3 rfl) (by assumption) ?_
 (try simp only[q1,q2,q3,Act.put,q4,s0,s1])
 refine YT ?_
 refine zor 13 ?_;intro K hK
 refine Ae (by rfl) (Cm (ty:=3) (u:=.int .i64 x0.reg) L 0 rfl (inL ⟨st.op,x0.reg,0,0,0⟩) rfl rfl rfl AW rfl rfl rfl ?_)
 intro wz Lz Nz
 clear Nz
 replace L:=Lz
 clear Lz
 simp only[s0,s1] at L
 refine hK.out _ _ (Cu L HC.out) ?_;clear hHeld hK K;intro hHeld
 (try simp only[q1,q2,q3,Act.put,q4,s0,s1])
 refine YT ?_
 refine zor 15 ?_;intro K hK
 refine Ae (by rfl) (Cm (ty:=3) (u:=.int .i64 x1.reg) L 0 rfl (inL ⟨st.op,x0.reg,x1.reg,0,0⟩) rfl rfl rfl AW rfl rfl rfl ?_)
 intro wz Lz Nz
 clear Nz
 replace L:=Lz
 clear Lz
 simp only[s0,s1] at L
 refine hK.out _ _ (Cu L HC.out) ?_;clear hHeld hK K;intro hHeld
 (try simp only[q1,q2,q3,Act.put,q4,s0,s1])
 refine YT ?_
 refine zor 17 ?_;intro K hK
 refine Ae (by rfl) (Cm (ty:=3) (u:=.int .i64 x2.reg) L 0 rfl (inL ⟨st.op,x0.reg,x1.reg,x2.reg,0⟩) rfl rfl rfl AW rfl rfl rfl ?_)
 intro wz Lz Nz
 clear Nz
 replace L:=Lz
 clear Lz
 simp only[s0,s1] at L
 refine hK.out _ _ (Cu L HC.out) ?_;clear hHeld hK K;intro hHeld
 (try simp only[q1,q2,q3,Act.put,q4,s0,s1])
 refine YD ?_
 clear hHeld
 go_wp2_with (first|(refine Yp (inL ⟨st.op,x0.reg,x1.reg,x2.reg,0⟩) ?_)|((first|refine Yt (inL ⟨st.op,x0.reg,x1.reg,x2.reg,0⟩) ?_|refine YS ?_);clear L;intro wz L))
 go_ret2
 exact Ret.mk L.bel
theorem inst_none (st:St) (va:Value) (v:Int) (w:World) (ha:RdS arL 3 w va st.l) (hok:okI (Bz st v)=true) (hf1:A2 st.op=1):Calls Tryz.prog 111 #[.agg (stL st va).toArray,.int .i64 v] w (Ret w (.tuple #[.int .u32 (Dr (Bz st v)),.bool true])):=by
 have HE:=lh (fun w=>CH (Bz st v) w (D7 hok))
 have hokk:=of_decide_eq_true hok
 have HF:=lh (fun w=>BC st.op w)
 obtain⟨f,hf⟩:∃ f,A2 (st.op:Int)=f:=⟨_,rfl⟩
 have hfb:=Ft (st.op:Int)
 rw[hf] at HF hfb
 have HB:=lh (fun w=>Df f w hfb.1 hfb.2)
 have hlo : -32768≤loF f∧loF f≤0:=by unfold loF;split <;> omega
 have hhi:0≤hiF f∧hiF f≤65535:=by unfold hiF;repeat' split <;> omega
 obtain⟨ao,cap,rfl,hcap,hmax,ha⟩:=ha.open
 unfold maxLen at hmax
 obtain⟨n,hn⟩:∃ n,st.l.length=n:=⟨_,rfl⟩
 rw[hn] at hcap ha ⊢
 have hop:36<st.op:=by
  unfold A2 at hf1
  repeat' split at hf1
  all_goals omega
 have ei:Bz st v=⟨st.op,0,0,0,0⟩:=by
  unfold Bz
  rw[if_neg (by omega),if_pos hf1]
 rw[ei] at HE ⊢
 obtain rfl:f=1:=by rw[←hf];exact hf1
 clear hok hokk ei hf1 hf hfb hlo hhi hn ha hcap hmax
 have hop2:(36:Int)<st.op:=by omega
 have L:=Lay.start w
 go_in
 go_wp2_with (first|(refine Yp (inL ⟨st.op,0,0,0,0⟩) ?_)|(refine YL ?_)|((first|refine Yt (inL ⟨st.op,0,0,0,0⟩) ?_|refine YS ?_);clear L;intro wz L))
 go_ret2
 exact Ret.mk L.bel
theorem inst_mem (st:St) (va:Value) (v:Int) (w:World) (ha:RdS arL 3 w va st.l) (hok:okI (Bz st v)=true) (ho0:32≤st.op) (ho1:st.op≤36) (hn3:3≤st.l.length):Calls Tryz.prog 111 #[.agg (stL st va).toArray,.int .i64 v] w (Ret w (.tuple #[.int .u32 (Dr (Bz st v)),.bool true])):=by
 obtain⟨x0,h0⟩:=A6 (xs:=st.l) (k:=0) (by omega)
 obtain⟨x1,h1⟩:=A6 (xs:=st.l) (k:=1) (by omega)
 obtain⟨x2,h2⟩:=A6 (xs:=st.l) (k:=2) (by omega)
 have hf3:A2 st.op=3:=by unfold A2;rw[if_neg (by omega),if_pos (by omega)]
 have ei:Bz st v=⟨st.op,x0.reg,x2.reg,0,x1.num⟩:=by
  unfold Bz
  rw[if_neg (by omega),if_neg (by omega),if_pos ⟨ho0,ho1⟩,(DH h0).1,(DH h1).2,(DH h2).1]
 have hbd:=(of_decide_eq_true hok).2.2.2.2
 rw[ei] at hbd
 dsimp only at hbd
 rw[hf3] at hbd
 have HE:=lh (fun w=>CH (Bz st v) w (D7 hok))
 have hokk:=of_decide_eq_true hok
 have HF:=lh (fun w=>BC st.op w)
 obtain⟨f,hf⟩:∃ f,A2 (st.op:Int)=f:=⟨_,rfl⟩
 have hfb:=Ft (st.op:Int)
 rw[hf] at HF hfb
 have HB:=lh (fun w=>Df f w hfb.1 hfb.2)
 have hlo : -32768≤loF f∧loF f≤0:=by unfold loF;split <;> omega
 have hhi:0≤hiF f∧hiF f≤65535:=by unfold hiF;repeat' split <;> omega
 obtain⟨ao,cap,rfl,hcap,hmax,ha⟩:=ha.open
 unfold maxLen at hmax
 obtain⟨n,hn⟩:∃ n,st.l.length=n:=⟨_,rfl⟩
 rw[hn] at hcap ha ⊢
 rw[ei] at HE ⊢
 obtain rfl:f=3:=by rw[←hf];exact hf3
 obtain⟨hxx,b,off,rfl,hbl,_,_,hcell⟩:=ha.at (by omega)
 have HC:=lh (show ∀ c∈[(b,off,Value.int .i64 x0.reg),(b,off+6,Value.int .i64 x2.reg)],c.1<w.heap.size∧w.cell? ⟨c.1,c.2.1,none⟩=some c.2.2 from fun c hc=>by
  simp only[List.mem_cons,List.not_mem_nil,or_false] at hc
  rcases hc with rfl|rfl
  · exact⟨hbl,by have:=hcell 0 x0 h0 0 _ rfl;simpa using this⟩
  · exact⟨hbl,by have:=hcell 2 x2 h2 0 _ rfl;simpa using this⟩)
 have HC1:=lh (hcell 1 x1 h1 1 _ rfl)
 have l0:loF 3≤x1.num:=hbd.1
 have l1:x1.num≤hiF 3:=hbd.2.1
 have l2 : -32768≤x1.num:=l0
 have l3:x1.num≤32767:=l1
 have l4:¬x1.num<loF 3:=by omega
 have l5:¬hiF 3<x1.num:=by omega
 clear hxx hcell ha h0 h1 h2 hok hokk ei hf3 hf hfb hlo hhi hbd
 have n0:0<n:=by omega
 have n1:(1:Int)<n:=by omega
 have n2:(2:Int)<n:=by omega
 have o0:(32:Int)≤st.op:=by omega
 have o1:(st.op:Int)≤36:=by omega
 clear hn hn3
 have L:=Lay.start w
 go_in
 go_upto_region 8 with (first|(refine YL ?_)|(refine YS ?_;clear L;intro wz L))
 (try simp only[Act.put,q4,s0,s1])
 have hHeld:=(fun w' L=>Cu (w:=w') L HC.out) _ L.drew
 refine wp_region_held_drew (by kernel_rfl) hHeld (fun hHeld=>?_)
 replace L:=L.drew
 refine YT ?_
 refine wpAnyH_take (i:=3) (v:=.int .i64 x0.reg) rfl (by kernel_rfl) (by kernel_rfl) (by kernel_rfl) (fun _ _ _ h=>h) (AG (ty:=3) 0 rfl (by rfl) rfl rfl τ3 rfl) (by assumption) ?_
 (try simp only[q1,q2,q3,Act.put,q4,s0,s1])
 refine YT ?_
 refine wpAnyH_take (i:=7) (v:=.int .i64 x2.reg) rfl (by kernel_rfl) (by kernel_rfl) (by kernel_rfl) (fun _ _ _ h=>h) (AG (ty:=3) 1 rfl (by rfl) rfl rfl τ3 rfl) (by assumption) ?_
 (try simp only[q1,q2,q3,Act.put,q4,s0,s1])
 refine YT ?_
 refine zor 9 ?_;intro K hK
 refine Ae (by rfl) (Cm (ty:=3) (u:=.int .i64 x0.reg) L 0 rfl (inL ⟨st.op,x0.reg,0,0,0⟩) rfl rfl rfl AW rfl rfl rfl ?_)
 intro wz Lz Nz
 clear Nz
 replace L:=Lz
 clear Lz
 simp only[s0,s1] at L
 refine hK.out _ _ (Cu L HC.out) ?_;clear hHeld hK K;intro hHeld
 (try simp only[q1,q2,q3,Act.put,q4,s0,s1])
 refine YT ?_
 refine zor 11 ?_;intro K hK
 refine Ae (by rfl) (Cm (ty:=3) (u:=.int .i64 x2.reg) L 0 rfl (inL ⟨st.op,x0.reg,x2.reg,0,0⟩) rfl rfl rfl AW rfl rfl rfl ?_)
 intro wz Lz Nz
 clear Nz
 replace L:=Lz
 clear Lz
 simp only[s0,s1] at L
 refine hK.out _ _ (Cu L HC.out) ?_;clear hHeld hK K;intro hHeld
 (try simp only[q1,q2,q3,Act.put,q4,s0,s1])
 refine YD ?_
 clear hHeld
 go_wp2_with (first|(refine Ad rfl (Au (ty:=2) (u:=.int .i64 x1.num) rfl rfl τ2 rfl ((L.bel.cell (p:=⟨b,_,none⟩) hbl).trans HC1.out)) ?_)|(refine Yp (inL ⟨st.op,x0.reg,x2.reg,0,x1.num⟩) ?_)|((first|refine Yt (inL ⟨st.op,x0.reg,x2.reg,0,x1.num⟩) ?_|refine YS ?_);clear L;intro wz L))
 go_ret2
 exact Ret.mk L.bel
theorem inst_one (st:St) (va:Value) (v:Int) (w:World) (ha:RdS arL 3 w va st.l) (hok:okI (Bz st v)=true) (hf6:6≤A2 st.op) (hn1:1≤st.l.length):Calls Tryz.prog 111 #[.agg (stL st va).toArray,.int .i64 v] w (Ret w (.tuple #[.int .u32 (Dr (Bz st v)),.bool true])):=by
 obtain⟨x0,h0⟩:=A6 (xs:=st.l) (k:=0) (by omega)
 have hno:¬(32≤st.op∧st.op≤36):=fun h=>by
  have:A2 st.op=3:=by unfold A2;rw[if_neg (by omega),if_pos (by omega)]
  omega
 have ei:Bz st v=⟨st.op,x0.reg,0,0,v⟩:=by
  unfold Bz
  rw[if_neg (by omega),if_neg (by omega),if_neg hno,if_pos hf6,(DH h0).1]
 have hbd:=(of_decide_eq_true hok).2.2.2.2
 rw[ei] at hbd
 dsimp only at hbd
 have HE:=lh (fun w=>CH (Bz st v) w (D7 hok))
 have hokk:=of_decide_eq_true hok
 have HF:=lh (fun w=>BC st.op w)
 obtain⟨f,hf⟩:∃ f,A2 (st.op:Int)=f:=⟨_,rfl⟩
 have hfb:=Ft (st.op:Int)
 rw[hf] at HF hfb
 have HB:=lh (fun w=>Df f w hfb.1 hfb.2)
 have hlo : -32768≤loF f∧loF f≤0:=by unfold loF;split <;> omega
 have hhi:0≤hiF f∧hiF f≤65535:=by unfold hiF;repeat' split <;> omega
 obtain⟨ao,cap,rfl,hcap,hmax,ha⟩:=ha.open
 unfold maxLen at hmax
 obtain⟨n,hn⟩:∃ n,st.l.length=n:=⟨_,rfl⟩
 rw[hn] at hcap ha ⊢
 rw[hf] at hbd hf6
 rw[ei] at HE ⊢
 obtain⟨hxx,b,off,rfl,hbl,_,_,hcell⟩:=ha.at (by omega)
 have HC0:=lh (hcell 0 x0 h0 0 _ rfl)
 have l0:¬v<loF f:=by omega
 have l1:¬hiF f<v:=by omega
 have l2 : -32768≤v:=by omega
 have l3:v≤65535:=by omega
 have n0:0<n:=by omega
 have hno':(st.op:Int)<32∨(36:Int)<st.op:=by omega
 clear hxx hcell ha h0 hok hokk ei hfb hlo hhi hbd hno hn hn1 hf
 have f1:¬f=1:=by omega
 have f2:¬f=2:=by omega
 rcases hno' with hno'|hno'
 all_goals
  have L:=Lay.start w
  go_in
  go_wp2_with (first|(refine Ad rfl (Au (ty:=3) (u:=.int .i64 x0.reg) rfl rfl τ3 rfl ((L.bel.cell (p:=⟨b,_,none⟩) hbl).trans (by simpa using HC0.out))) ?_)|(refine Yp (inL ⟨st.op,x0.reg,0,0,v⟩) ?_)|(refine YL ?_)|((first|refine Yt (inL ⟨st.op,x0.reg,0,0,0⟩) ?_|refine Yt (inL ⟨st.op,x0.reg,0,0,v⟩) ?_|refine YS ?_);clear L;intro wz L))
  go_ret2
  exact Ret.mk L.bel
theorem inst_two (st:St) (va:Value) (v:Int) (w:World) (ha:RdS arL 3 w va st.l) (hok:okI (Bz st v)=true) (hf6:3≤A2 st.op∧A2 st.op<6) (hno:¬(32≤st.op∧st.op≤36)) (hn1:2≤st.l.length):Calls Tryz.prog 111 #[.agg (stL st va).toArray,.int .i64 v] w (Ret w (.tuple #[.int .u32 (Dr (Bz st v)),.bool true])):=by
 obtain⟨x0,h0⟩:=A6 (xs:=st.l) (k:=0) (by omega)
 obtain⟨x1,h1⟩:=A6 (xs:=st.l) (k:=1) (by omega)
 have ei:Bz st v=⟨st.op,x0.reg,x1.reg,0,v⟩:=by
  unfold Bz
  rw[if_neg (by omega),if_neg (by omega),if_neg hno,if_neg (by omega),(DH h0).1,(DH h1).1]
 have hbd:=(of_decide_eq_true hok).2.2.2.2
 rw[ei] at hbd
 dsimp only at hbd
 have HE:=lh (fun w=>CH (Bz st v) w (D7 hok))
 have hokk:=of_decide_eq_true hok
 have HF:=lh (fun w=>BC st.op w)
 obtain⟨f,hf⟩:∃ f,A2 (st.op:Int)=f:=⟨_,rfl⟩
 have hfb:=Ft (st.op:Int)
 rw[hf] at HF hfb
 have HB:=lh (fun w=>Df f w hfb.1 hfb.2)
 have hlo : -32768≤loF f∧loF f≤0:=by unfold loF;split <;> omega
 have hhi:0≤hiF f∧hiF f≤65535:=by unfold hiF;repeat' split <;> omega
 obtain⟨ao,cap,rfl,hcap,hmax,ha⟩:=ha.open
 unfold maxLen at hmax
 obtain⟨n,hn⟩:∃ n,st.l.length=n:=⟨_,rfl⟩
 rw[hn] at hcap ha ⊢
 rw[hf] at hbd hf6
 rw[ei] at HE ⊢
 obtain⟨hxx,b,off,rfl,hbl,_,_,hcell⟩:=ha.at (by omega)
 have HC:=lh (show ∀ c∈[(b,off,Value.int .i64 x0.reg),(b,off+3,Value.int .i64 x1.reg)],c.1<w.heap.size∧w.cell? ⟨c.1,c.2.1,none⟩=some c.2.2 from fun c hc=>by
  simp only[List.mem_cons,List.not_mem_nil,or_false] at hc
  rcases hc with rfl|rfl
  · exact⟨hbl,by have:=hcell 0 x0 h0 0 _ rfl;simpa using this⟩
  · exact⟨hbl,by have:=hcell 1 x1 h1 0 _ rfl;simpa using this⟩)
 have l0:¬v<loF f:=by omega
 have l1:¬hiF f<v:=by omega
 have l2 : -32768≤v:=by omega
 have l3:v≤65535:=by omega
 have n0:0<n:=by omega
 have n1:(1:Int)<n:=by omega
 have hno':(st.op:Int)<32∨(36:Int)<st.op:=by omega
 clear hxx hcell ha h0 h1 hok hokk ei hfb hlo hhi hbd hno hn hn1 hf
 have f1:¬f=1:=by omega
 have f2:¬f=2:=by omega
 have f6:f<6:=hf6.2
 clear hf6
 rcases hno' with hno'|hno'
 all_goals
  have L:=Lay.start w
  go_in
  go_upto_region 13 with (first|(refine YL ?_)|(refine YS ?_;clear L;intro wz L))
  (try simp only[Act.put,q4,s0,s1])
  have hHeld:=(fun w' L=>Cu (w:=w') L HC.out) _ L.drew
  refine wp_region_held_drew (by kernel_rfl) hHeld (fun hHeld=>?_)
  replace L:=L.drew
  refine YT ?_
  refine wpAnyH_take (i:=3) (v:=.int .i64 x0.reg) rfl (by kernel_rfl) (by kernel_rfl) (by kernel_rfl) (fun _ _ _ h=>h) (AG (ty:=3) 0 rfl (by rfl) rfl rfl τ3 rfl) (by assumption) ?_
  (try simp only[q1,q2,q3,Act.put,q4,s0,s1])
  refine YT ?_
  refine wpAnyH_take (i:=7) (v:=.int .i64 x1.reg) rfl (by kernel_rfl) (by kernel_rfl) (by kernel_rfl) (fun _ _ _ h=>h) (AG (ty:=3) 1 rfl (by rfl) rfl rfl τ3 rfl) (by assumption) ?_
  (try simp only[q1,q2,q3,Act.put,q4,s0,s1])
  refine YT ?_
  refine zor 9 ?_;intro K hK
  refine Ae (by rfl) (Cm (ty:=3) (u:=.int .i64 x0.reg) L 0 rfl (inL ⟨st.op,x0.reg,0,0,0⟩) rfl rfl rfl AW rfl rfl rfl ?_)
  intro wz Lz Nz
  clear Nz
  replace L:=Lz
  clear Lz
  simp only[s0,s1] at L
  refine hK.out _ _ (Cu L HC.out) ?_;clear hHeld hK K;intro hHeld
  (try simp only[q1,q2,q3,Act.put,q4,s0,s1])
  refine YT ?_
  refine zor 11 ?_;intro K hK
  refine Ae (by rfl) (Cm (ty:=3) (u:=.int .i64 x1.reg) L 0 rfl (inL ⟨st.op,x0.reg,x1.reg,0,0⟩) rfl rfl rfl AW rfl rfl rfl ?_)
  intro wz Lz Nz
  clear Nz
  replace L:=Lz
  clear Lz
  simp only[s0,s1] at L
  refine hK.out _ _ (Cu L HC.out) ?_;clear hHeld hK K;intro hHeld
  (try simp only[q1,q2,q3,Act.put,q4,s0,s1])
  refine YD ?_
  clear hHeld
  go_wp2_with (first|(refine Yp (inL ⟨st.op,x0.reg,x1.reg,0,v⟩) ?_)|((first|refine Yt (inL ⟨st.op,x0.reg,x1.reg,0,v⟩) ?_|refine YS ?_);clear L;intro wz L))
  go_ret2
  exact Ret.mk L.bel
theorem inst_any (st:St) (va:Value) (v:Int) (w:World) (ha:RdS arL 3 w va st.l) (hok:okI (Bz st v)=true) (hn:needA st≤st.l.length):Calls Tryz.prog 111 #[.agg (stL st va).toArray,.int .i64 v] w (Ret w (.tuple #[.int .u32 (Dr (Bz st v)),.bool true])):=by
 have hfb:=Ft (st.op:Int)
 have hf0:A2 st.op≠0:=by
  have:=(of_decide_eq_true hok).1
  unfold Bz at this
  repeat' split at this
  all_goals exact this
 unfold needA at hn
 by_cases h2:A2 st.op=2
 · rw[if_pos h2] at hn;exact inst_three st va v w ha hok h2 hn
 rw[if_neg h2] at hn
 by_cases h1:A2 st.op=1
 · exact inst_none st va v w ha hok h1
 rw[if_neg h1] at hn
 by_cases h3:32≤st.op∧st.op≤36
 · rw[if_pos h3] at hn;exact inst_mem st va v w ha hok h3.1 h3.2 hn
 rw[if_neg h3] at hn
 by_cases h6:6≤A2 st.op
 · rw[if_pos h6] at hn;exact inst_one st va v w ha hok h6 hn
 rw[if_neg h6] at hn
 exact inst_two st va v w ha hok ⟨by omega,by omega⟩ h3 hn
end Go.Proofs.YtnmpfmapncicmaaGreat
