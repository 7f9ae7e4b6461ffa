/- Part of a proof. No condition. -/
import Derived.Test.YtofacoojpgkbiaaCCalP22
set_option linter.unusedVariables false
set_option maxHeartbeats 8000000
set_option linter.unusedSimpArgs false
namespace Go.Proofs.Ytofacoojpgkbiaa.Cl
open Go.Conc Go.RowKit
open Go.ConcN (upd upd_ne upd_same)
set_option maxRecDepth 100000
def A9(x:Nat→Value):Act:=⟨#[x 0,x 1,x 2,x 3,x 4,x 5,x 6,x 7,x 8,x 9,x 10,x 11,x 12,x 13,x 14,x 15,x 16,x 17,x 18,x 19,x 20,x 21,x 22,x 23,x 24,x 25,x 26,x 27,x 28,x 29,x 30,x 31,x 32,x 33,x 34,x 35,x 36,x 37,x 38,x 39,x 40,x 41,x 42,x 43,x 44,x 45,x 46,x 47,x 48,x 49,x 50,x 51,x 52,x 53,x 54,x 55,x 56,x 57,x 58,x 59,x 60,x 61,x 62,x 63,x 64,x 65,x 66,x 67,x 68,x 69,x 70,x 71,x 72,x 73,x 74,x 75,x 76,x 77,x 78,x 79,x 80,x 81,x 82,x 83,x 84,x 85,x 86,x 87,x 88,x 89,x 90,x 91,x 92,x 93,x 94,x 95,x 96,x 97,x 98,x 99,x 100,x 101,x 102,x 103,x 104,x 105,x 106,x 107,x 108,x 109,x 110,x 111,x 112,x 113,x 114,x 115,x 116,x 117,x 118,x 119,x 120,x 121,x 122,x 123,x 124,x 125,x 126,x 127,x 128,x 129,x 130,x 131,x 132,x 133,x 134,x 135,x 136,x 137,x 138,x 139,x 140,x 141,x 142,x 143,x 144,x 145,x 146,x 147,x 148,x 149,x 150,x 151,x 152,x 153,x 154,x 155,x 156,x 157,x 158,x 159,x 160,x 161,x 162,x 163,x 164,x 165,x 166,x 167,x 168,x 169,x 170,x 171,x 172,x 173,x 174,x 175,x 176,x 177,x 178,x 179,x 180,x 181,x 182,x 183,x 184,x 185,x 186,x 187,x 188,x 189,x 190,x 191,x 192,x 193,x 194,x 195,x 196,x 197,x 198,x 199,x 200,x 201,x 202,x 203,x 204,x 205,x 206,x 207,x 208,x 209,x 210,x 211,x 212,x 213,x 214,x 215,x 216,x 217,x 218,x 219,x 220,x 221,x 222,x 223,x 224,x 225,x 226,x 227,x 228,x 229,x 230,x 231,x 232,x 233,x 234,x 235,x 236,x 237,x 238,x 239,x 240,x 241,x 242,x 243,x 244,x 245,x 246,x 247,x 248,x 249,x 250,x 251,x 252,x 253,x 254,x 255,x 256,x 257,x 258,x 259,x 260,x 261,x 262,x 263,x 264,x 265,x 266,x 267,x 268,x 269,x 270,x 271,x 272,x 273,x 274,x 275,x 276,x 277,x 278,x 279,x 280,x 281,x 282,x 283,x 284,x 285,x 286,x 287,x 288,x 289,x 290,x 291,x 292,x 293,x 294,x 295,x 296,x 297,x 298,x 299],[]⟩
theorem z7e(l:Array Value)(hl:l.size=300):(⟨l,[]⟩:Act)=A9 fun j=>l.getD j undef:=by
 have e:∀x:Nat→Value,(A9 x).tmps=((List.range 300).map x).toArray:=fun x=>rfl;have h1:l=(A9 fun j=>l.getD j undef).tmps:=by
  rw[e];apply Array.ext_getElem?;intro i;by_cases h:i<300
  ·have h':i<l.size:=by omega
   simp[h,h',List.getElem?_range]
  ·have h':¬i<l.size:=by omega
   rw[Array.getElem?_eq_none (by omega),Array.getElem?_eq_none (by simp;omega)]
 exact congrArg (Act.mk · []) h1
noncomputable def zgj:Code:=match Try.f149.body with
 | some (.seq _ (.seq _ c))=>c
 | _ => .skip
section
variable{K:MK}{va:Nat→Value}{S:GMc}{w:World}{i:Nat}
theorem zbq{Q:Ending→World→Prop}(h:MMem K va S w)(hi:i<K.n)(hat:(S.T i).at_<(S.T i).ops.length){ok oa ob oc:Int}(ho:opG (S.T i)=⟨ok,oa,ob,oc⟩){c:Nat}(hc:c<K.k)(hoa:oa=(c:Int))
  (qy:∀(N:Nat) (w2:World) (x:Nat→Value),x 0 = .pointer (some ⟨K.mb,0,none⟩)→x 1 = .int .i64 i→x 4 = .pointer (some ⟨N,0,none⟩)→x 5 = .pointer (some ⟨N+1,0,none⟩)→MMem K va S w2→KeepM w w2→w2.heap[N]?=some (.cells #[.int .i64 ok,.int .i64 (c:Int),.int .i64 ob,.int .i64 oc] 45 (0,0))→w2.heap[N+1]?=some (.cells #[.int .i64 (S.W c),.bool (S.F c),.int .i64 (S.B c),.int .i64 (S.Ser c)] 262 (0,0)) →
   (N≠K.tb∧N≠K.mb∧(0<K.k→N≠K.cb))→(N+1≠K.tb∧N+1≠K.mb∧(0<K.k→N+1≠K.cb))→Code.wp Try.prog zgj (bodyPost Try.prog Try.f149 Q) (A9 x) w2) :
  Calls Try.prog 149 #[.pointer (some ⟨K.mb,0,none⟩),.int .i64 i] w Q:=by
 have hi':(i:Int)<(K.n:Int):=by omega
 have hat':((S.T i).at_:Int)<((S.T i).ops.length:Int):=by omega
 have hc':(c:Int)<(K.k:Int):=by omega
 subst hoa;obtain⟨hca,cb',ct⟩:=h.cs (by omega);obtain⟨xb,xo,xc,hvo,hok,o0,o1,o2,o3⟩:=h.opAt hi rfl hat;rw[ho] at o0 o1 o2 o3;simp only at o0 o1 o2 o3;have m1:=h.cellM 1;have t0:=h.cellT hi (k:=0) (by decide);have t3:=h.cellT hi (k:=3) (by decide);simp only[tcV,yac,yaa,yab,hvo,Nat.add_zero] at m1 t0 t3;have am1:=zcl (.cells #[.int .i64 0,.int .i64 0,.int .i64 0,.int .i64 0] 45) m1;have at0:=zcl (.cells #[.int .i64 0,.int .i64 0,.int .i64 0,.int .i64 0] 45) t0;have at3:=zcl (.cells #[.int .i64 0,.int .i64 0,.int .i64 0,.int .i64 0] 45) t3;have a0:=zcl (.cells #[.int .i64 0,.int .i64 0,.int .i64 0,.int .i64 0] 45) o0;have a1:=zcl (.cells #[.int .i64 0,.int .i64 0,.int .i64 0,.int .i64 0] 45) o1;have a2:=zcl (.cells #[.int .i64 0,.int .i64 0,.int .i64 0,.int .i64 0] 45) o2;have a3:=zcl (.cells #[.int .i64 0,.int .i64 0,.int .i64 0,.int .i64 0] 45) o3;have h1:=(h.alloc (.cells #[.int .i64 ok,.int .i64 (c:Int),.int .i64 ob,.int .i64 oc] 45)).drew;have k1:KeepM w (w.alloc (.cells #[.int .i64 ok,.int .i64 (c:Int),.int .i64 ob,.int .i64 oc] 45)).drew:=KeepM.alloc KeepM.refl _;have e1:(w.alloc (.cells #[.int .i64 ok,.int .i64 (c:Int),.int .i64 ob,.int .i64 oc] 45)).drew.heap[w.heap.size]?=_:=heap_alloc_new w (.cells #[.int .i64 ok,.int .i64 (c:Int),.int .i64 ob,.int .i64 oc] 45);have s1:(w.alloc (.cells #[.int .i64 ok,.int .i64 (c:Int),.int .i64 ob,.int .i64 oc] 45)).drew.heap.size=w.heap.size+1:=by
  show(w.alloc _).heap.size=_;simp
 generalize hM:w.heap.size=N at *;replace hM:=yay hM;replace qy:=yay qy;replace h:=yay h;replace ct:=yay ct;replace hok:=yay hok;replace hat:=yay hat;replace hvo:=yay hvo;replace ho:=yay ho;replace h1:=yay h1;replace k1:=yay k1;replace e1:=yay e1;replace s1:=yay s1;go_enter Try.func149,Try.ntmps149
 go_upto_region 0 with fail
 go_cut [4] (fun v wx=>v = .pointer (some ⟨N,0,none⟩)∧wx=(w.alloc (.cells #[.int .i64 ok,.int .i64 (c:Int),.int .i64 ob,.int .i64 oc] 45)).drew)
 case first =>
  go_region
  all_goals (go_wp2_with fail;go_meet)
  all_goals exact⟨by rw[hM.out],rfl⟩
 case rest =>
 obtain⟨rfl,rfl⟩:=hcut;clear m1 t0 t3 am1 at0 at3 a0 a1 a2 a3 o0 o1 o2 o3 hat';generalize (w.alloc (.cells #[.int .i64 ok,.int .i64 (c:Int),.int .i64 ob,.int .i64 oc] 45)).drew=w1 at *;have m0:=h1.out.cellM 0;have b1:=zab e1.out 1;have x0:=h1.out.cellC hc (k:=0) (by decide);have x1:=h1.out.cellC hc (k:=1) (by decide);have x2:=h1.out.cellC hc (k:=2) (by decide);have x3:=h1.out.cellC hc (k:=3) (by decide);simp only[ccV,yac,yaa,yab,hca,Nat.add_zero] at m0 b1 x0 x1 x2 x3;have c0:=zcl (.cells #[.int .i64 0,.bool false,.int .i64 0,.int .i64 0] 262) m0;have c1:=zcl (.cells #[.int .i64 0,.bool false,.int .i64 0,.int .i64 0] 262) b1;have c2:=zcl (.cells #[.int .i64 0,.bool false,.int .i64 0,.int .i64 0] 262) x0;have c3:=zcl (.cells #[.int .i64 0,.bool false,.int .i64 0,.int .i64 0] 262) x1;have c4:=zcl (.cells #[.int .i64 0,.bool false,.int .i64 0,.int .i64 0] 262) x2;have c5:=zcl (.cells #[.int .i64 0,.bool false,.int .i64 0,.int .i64 0] 262) x3;go_upto_region 1 with fail
 go_cut [5] (fun v wx=>v = .pointer (some ⟨N+1,0,none⟩)∧wx=(w1.alloc (.cells #[.int .i64 (S.W c),.bool (S.F c),.int .i64 (S.B c),.int .i64 (S.Ser c)] 262)).drew)
 case first =>
  go_region
  all_goals (go_wp2_with fail;go_meet)
  all_goals (first|exact⟨rfl,rfl⟩|exact⟨by rw[s1.out],rfl⟩)
 case rest =>
 obtain⟨rfl,rfl⟩:=hcut;clear m0 b1 x0 x1 x2 x3 c0 c1 c2 c3 c4 c5;have h2:=(h1.out.alloc (.cells #[.int .i64 (S.W c),.bool (S.F c),.int .i64 (S.B c),.int .i64 (S.Ser c)] 262)).drew;have k2:KeepM w (w1.alloc (.cells #[.int .i64 (S.W c),.bool (S.F c),.int .i64 (S.B c),.int .i64 (S.Ser c)] 262)).drew:=k1.out.alloc _;have f2:(w1.alloc (.cells #[.int .i64 (S.W c),.bool (S.F c),.int .i64 (S.B c),.int .i64 (S.Ser c)] 262)).drew.heap[N+1]?=some (.cells #[.int .i64 (S.W c),.bool (S.F c),.int .i64 (S.B c),.int .i64 (S.Ser c)] 262 (0,0)):=by
  rw[←s1.out];exact heap_alloc_new w1 _
 have e2:(w1.alloc (.cells #[.int .i64 (S.W c),.bool (S.F c),.int .i64 (S.B c),.int .i64 (S.Ser c)] 262)).drew.heap[N]?=some (.cells #[.int .i64 ok,.int .i64 (c:Int),.int .i64 ob,.int .i64 oc] 45 (0,0)):=(Below.heap_alloc w1 _ _ (by rw[s1.out];omega)).trans e1.out;have nA:=zte h.out (N:=N) (by rw[hM.out];omega);have nB:=zte h.out (N:=N+1) (by rw[hM.out];omega);replace nA:=yay nA;replace nB:=yay nB
 go_upto_block 0 with fail
 rw[z7e _ rfl];refine qy.out N _ _ ?_ ?_ ?_ ?_ h2 k2 e2 f2 nA.out nB.out<;>rfl
end
end Go.Proofs.Ytofacoojpgkbiaa.Cl
