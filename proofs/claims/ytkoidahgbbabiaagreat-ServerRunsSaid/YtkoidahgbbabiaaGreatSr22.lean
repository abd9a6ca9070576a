/- Texts of one proof, one behind another. -/
import Derived.Test.YtkoidahgbbabiaaGreatSr21
import Derived.Test.YtkoidahgbbabiaaGreatSr1
set_option maxRecDepth 100000
set_option maxHeartbeats 100000000
namespace Go.Proofs.YtkoidahgbbabiaaGreat
open Go.RowKit
theorem law_ServerRuns (n most:Int) (v:Value) (xs:List Stp) (w:World) (hv:StpsAt w v xs) (hz:∀x∈xs,MsSz x.x):
  Calls Tryz.prog 8 #[.int .i64 n,.int .i64 most,v] w fun e w'=>e=.returned (.bool true)∧Below w.heap.size w w':=by
 obtain⟨k4,hk4⟩:∃k:Nat,n%4=k:=Int.eq_ofNat_of_zero_le (by omega);have hand:bits .and .i64 n 3=(k4:Int):=by rw[and_3S,hk4]
 obtain⟨m,hm⟩:∃k:Nat,most%16=k:=Int.eq_ofNat_of_zero_le (by omega);have hand2:bits .and .i64 most 15=(m:Int):=by rw[and_15,hm]
 obtain⟨N,hN⟩:∃N:Nat,N=k4+1:=⟨_,rfl⟩
 have zN:IntKind.i64.wrap ((1:Int)+(k4:Int))=(N:Int):=by rw[IntWalk.i64_in _ (by omega)];omega
 have hN1:1≤N:=by omega
 have hN4:N≤4:=by omega
 obtain⟨s0,c0,rfl,hl1,hl2,-⟩:=id hv;have xl:xs.length≤9223372036854775807:=Nat.le_trans hl1 hl2;have HV:=jh hv;have HZ:=jh hz;have SD:=jh (l_sides14 N (by omega));have NC:=jh (newCd_sds (n:=N) (by omega) (by omega));have hmm:=@run_makeMap Tryz.prog;clear hv hz hl1 hl2 hk4 hN hm;go_enter Tryz.func8,Tryz.ntmps8;go_wp2_with fail;refine(law_head w).mono ?_;rintro e w1 ⟨rfl,hb1⟩;have B1:=jh hb1;clear hb1;go_wp2_with fail;refine(SD.out w1).mono ?_;rintro e w2 ⟨s1,c1,rfl,ow,hb2⟩;have NW:=jh (ls_New 65000 (m:Int) (.slice s1 N c1) (sdsN N) w w2 (jC B1.out hb2) (sds_own ow (by omega)) NC.out);clear ow hb2 B1;go_wp2_with fail;refine NW.out.mono ?_;rintro e w3 ⟨rho,sb,fb,ls,rfl,L0,-,-⟩;have LEN:Hid ((newA 65000 (m:Int) (sdsN N)).V.length=N):=jh (newA_len ..);have SS:=jh (ls_Sides L0);rw[LEN.out] at SS;have nn:((N:Int) !=(N:Int))=false:=by simp
 have L0:=jh L0;clear NW;go_wp2_with fail;refine SS.out.mono ?_;rintro e w3' ⟨rfl,rfl⟩;have RN:Hid (∀k,w3.heap.size≤k→rho k=.no):=jh (fun k hk=>L0.out.new hk);go_wp2_with fail;refine(l_begin N (by omega) (m:Int) w3).mono ?_;rintro e w4 ⟨sg0,wb0,kb,v1,v2,v3,rbs,tbs,abs,rfl,bg,bl,hb4⟩;obtain⟨L,sg,wbe,hwd,lw⟩:=bg.lwm bl (by omega) hb4.size RN.out;rw[hwd] at lw ⊢;go_wp2_with ((with_reducible refine jM (X:=.store 91 (.tmp 9) (.tmp 82)) ?_ ?_);(·rfl));unfold Halt;refine st_fresh rfl 91 (.tmp 9) (.tmp 82) rfl rfl _ (wdC N (fun _=>false) L) rfl sz_world rfl (wd_one _ _ _) ?_;obtain⟨w5,hw5,-,hb5,-⟩:=box1 w4 (wdC N (fun _=>false) L) 91;rw[←hw5] at lw ⊢;obtain⟨wb,hwb⟩:∃b,b=w4.heap.size:=⟨_,rfl⟩
 rw[←hwb] at wbe ⊢;simp only[Act.put];obtain⟨BB,hBB⟩:∃b,b=w3.heap.size:=⟨_,rfl⟩
 obtain⟨mm,hmn⟩:∃mm,min (max (m:Int) 0) 256=mm:=⟨_,rfl⟩
 have HR:Hid (Here w sb fb ls BB wb N mm w5):=jh (by
  refine⟨rho,newA 65000 (m:Int) (sdsN N),sg,L,List.replicate N [],List.replicate N [],⟨(L0.out.below hb4).below hb5,?_,LwOk.new _ _,hmn,fun i l hl=>?_,fun i l hl=>?_,wbe,?_,?_⟩⟩
  ·rw[newA_R,←hmn,hBB];exact lw
  ·rw[List.getElem?_replicate] at hl;split at hl
   ·injection hl with hl;subst hl;exact KnOk.new _ _ _ i
   ·cases hl
  ·rw[List.getElem?_replicate] at hl;split at hl
   ·injection hl with hl;subst hl;exact AgOk.nil _ i
   ·cases hl
  ·rw[hBB];exact L0.out.bel.size
  ·rw[hBB];exact Nat.le_trans hb4.size hb5.size)
 clear lw wbe hwd bg bl hb4 hb5 hw5 hwb hBB hmn L0 RN SS LEN nn NC SD;go_upto_block 0 with (fail)
 obtain⟨F,hF⟩:∃F:(Nat→Value)→Act,F=(fun u=>⟨#[.int .i64 N,.int .i64 m,.slice s0 xs.length c0,u 3,u 4,u 5,u 6,.pointer (some ⟨sb,0,none⟩),.int .i64 0,.pointer (some ⟨wb,0,none⟩),u 10,u 11,u 12,u 13,u 14,u 15,u 16,u 17,u 18,u 19,u 20,u 21,u 22,u 23,u 24,u 25,u 26,u 27,u 28,u 29,u 30,u 31,u 32,u 33,u 34,u 35,u 36,u 37,u 38,u 39,u 40,u 41,u 42,u 43,u 44,u 45,u 46,u 47,u 48,u 49,u 50,u 51,u 52,u 53,u 54,u 55,u 56,u 57,u 58,u 59,u 60,u 61,u 62,u 63,u 64,u 65,u 66,u 67,u 68,u 69,u 70,u 71,u 72,u 73,u 74,u 75,u 76,u 77,u 78,u 79,u 80,u 81,u 82,u 83,u 84,u 85,u 86,u 87,u 88,u 89,u 90,u 91,u 92,u 93,u 94,u 95,u 96,u 97,u 98,u 99,u 100,u 101,u 102,u 103,u 104,u 105,u 106,u 107,u 108,u 109,u 110,u 111,u 112,u 113,u 114,u 115,u 116,u 117,u 118,u 119,u 120,u 121,u 122,u 123,u 124,u 125,u 126,u 127,u 128,u 129,u 130,u 131,u 132,u 133,u 134,u 135,u 136,u 137,u 138,u 139,u 140,u 141,u 142,u 143,u 144,u 145,u 146,u 147,u 148,u 149,u 150,u 151,u 152,u 153,u 154,u 155,u 156,u 157,u 158,u 159,u 160,u 161,u 162,u 163,u 164,u 165,u 166,u 167,u 168,u 169,u 170,u 171,u 172,u 173,u 174,u 175,u 176,u 177,u 178,u 179,u 180,u 181,u 182,u 183,u 184,u 185,u 186,u 187,u 188,u 189,u 190,u 191,u 192,u 193,u 194,u 195,u 196,u 197,u 198,u 199,u 200,u 201,u 202,u 203,u 204,u 205,u 206,u 207,u 208,u 209,u 210,u 211,u 212,u 213,u 214,u 215,u 216,u 217,u 218,u 219,u 220,u 221,u 222,u 223,u 224,u 225,u 226,u 227,u 228,u 229,u 230,u 231,u 232,u 233,u 234,u 235,u 236,u 237,u 238,u 239,u 240,u 241,u 242,u 243,u 244,u 245,u 246,u 247,u 248,u 249,u 250,u 251,u 252,u 253,u 254,u 255,u 256,u 257,u 258,u 259,u 260,u 261,u 262,u 263,u 264,u 265,u 266,u 267,u 268,u 269,u 270,u 271,u 272,u 273,u 274,u 275,u 276,u 277,u 278,u 279,u 280,u 281,u 282,u 283,u 284,u 285,u 286,u 287,u 288,u 289,u 290,u 291,u 292,u 293,u 294,u 295,u 296,u 297,u 298,u 299,u 300,u 301,u 302,u 303,u 304,u 305,u 306,u 307,u 308,u 309,u 310,u 311,u 312,u 313,u 314,u 315,u 316,u 317,u 318,u 319,u 320,u 321,u 322,u 323,u 324,u 325,u 326,u 327,u 328,u 329,u 330,u 331,u 332,u 333,u 334,u 335,u 336,u 337,u 338,u 339,u 340,u 341,u 342,u 343,u 344,u 345,u 346,u 347,u 348,u 349,u 350,u 351,u 352,u 353,u 354,u 355,u 356,u 357,u 358,u 359,u 360,u 361,u 362,u 363,u 364,u 365,u 366,u 367,u 368,u 369,u 370,u 371,u 372,u 373,u 374,u 375,u 376,u 377,u 378,u 379,u 380,u 381,u 382,u 383,u 384,u 385,u 386,u 387,u 388,u 389,u 390,u 391,u 392,u 393,u 394,u 395,u 396,u 397,u 398,u 399,u 400,u 401,u 402,u 403,u 404,u 405,u 406,u 407,u 408,u 409,u 410,u 411,u 412,u 413,u 414,u 415,u 416,u 417,u 418,u 419,u 420,u 421,u 422,u 423,u 424,u 425,u 426,u 427,u 428,u 429,u 430,u 431,u 432,u 433,u 434,u 435,u 436,u 437,u 438,u 439,u 440,u 441,u 442,u 443,u 444,u 445,u 446,u 447,u 448,u 449,u 450,u 451,u 452,u 453,u 454,u 455,u 456,u 457,u 458,u 459,u 460,u 461,u 462,u 463,u 464,u 465,u 466,u 467,u 468,u 469,u 470,u 471,u 472,u 473,u 474,u 475,u 476,u 477,u 478,u 479,u 480,u 481,u 482,u 483,u 484,u 485,u 486,u 487,u 488,u 489,u 490,u 491,u 492,u 493,u 494,u 495,u 496,u 497,u 498,u 499,u 500,u 501,u 502,u 503,u 504,u 505,u 506,u 507,u 508,u 509,u 510,u 511,u 512,u 513,u 514,u 515,u 516,u 517,u 518,u 519,u 520,u 521,u 522,u 523,u 524,u 525,u 526,u 527,u 528,u 529,u 530,u 531,u 532,u 533,u 534,u 535,u 536,u 537,u 538,u 539,u 540,u 541,u 542,u 543,u 544,u 545,u 546,u 547,u 548,u 549,u 550,u 551,u 552,u 553,u 554,u 555,u 556,u 557,u 558,u 559,u 560,u 561,u 562,u 563,u 564,u 565,u 566,u 567,u 568,u 569,u 570,u 571,u 572,u 573,u 574,u 575,u 576,u 577,u 578,u 579,u 580,u 581,u 582,u 583,u 584,u 585,u 586,u 587,u 588,u 589,u 590,u 591,u 592,u 593,u 594,u 595,u 596],[]⟩):=⟨_,rfl⟩
 have FE:Hid (∀u,F u=⟨#[.int .i64 N,.int .i64 m,.slice s0 xs.length c0,u 3,u 4,u 5,u 6,.pointer (some ⟨sb,0,none⟩),.int .i64 0,.pointer (some ⟨wb,0,none⟩),u 10,u 11,u 12,u 13,u 14,u 15,u 16,u 17,u 18,u 19,u 20,u 21,u 22,u 23,u 24,u 25,u 26,u 27,u 28,u 29,u 30,u 31,u 32,u 33,u 34,u 35,u 36,u 37,u 38,u 39,u 40,u 41,u 42,u 43,u 44,u 45,u 46,u 47,u 48,u 49,u 50,u 51,u 52,u 53,u 54,u 55,u 56,u 57,u 58,u 59,u 60,u 61,u 62,u 63,u 64,u 65,u 66,u 67,u 68,u 69,u 70,u 71,u 72,u 73,u 74,u 75,u 76,u 77,u 78,u 79,u 80,u 81,u 82,u 83,u 84,u 85,u 86,u 87,u 88,u 89,u 90,u 91,u 92,u 93,u 94,u 95,u 96,u 97,u 98,u 99,u 100,u 101,u 102,u 103,u 104,u 105,u 106,u 107,u 108,u 109,u 110,u 111,u 112,u 113,u 114,u 115,u 116,u 117,u 118,u 119,u 120,u 121,u 122,u 123,u 124,u 125,u 126,u 127,u 128,u 129,u 130,u 131,u 132,u 133,u 134,u 135,u 136,u 137,u 138,u 139,u 140,u 141,u 142,u 143,u 144,u 145,u 146,u 147,u 148,u 149,u 150,u 151,u 152,u 153,u 154,u 155,u 156,u 157,u 158,u 159,u 160,u 161,u 162,u 163,u 164,u 165,u 166,u 167,u 168,u 169,u 170,u 171,u 172,u 173,u 174,u 175,u 176,u 177,u 178,u 179,u 180,u 181,u 182,u 183,u 184,u 185,u 186,u 187,u 188,u 189,u 190,u 191,u 192,u 193,u 194,u 195,u 196,u 197,u 198,u 199,u 200,u 201,u 202,u 203,u 204,u 205,u 206,u 207,u 208,u 209,u 210,u 211,u 212,u 213,u 214,u 215,u 216,u 217,u 218,u 219,u 220,u 221,u 222,u 223,u 224,u 225,u 226,u 227,u 228,u 229,u 230,u 231,u 232,u 233,u 234,u 235,u 236,u 237,u 238,u 239,u 240,u 241,u 242,u 243,u 244,u 245,u 246,u 247,u 248,u 249,u 250,u 251,u 252,u 253,u 254,u 255,u 256,u 257,u 258,u 259,u 260,u 261,u 262,u 263,u 264,u 265,u 266,u 267,u 268,u 269,u 270,u 271,u 272,u 273,u 274,u 275,u 276,u 277,u 278,u 279,u 280,u 281,u 282,u 283,u 284,u 285,u 286,u 287,u 288,u 289,u 290,u 291,u 292,u 293,u 294,u 295,u 296,u 297,u 298,u 299,u 300,u 301,u 302,u 303,u 304,u 305,u 306,u 307,u 308,u 309,u 310,u 311,u 312,u 313,u 314,u 315,u 316,u 317,u 318,u 319,u 320,u 321,u 322,u 323,u 324,u 325,u 326,u 327,u 328,u 329,u 330,u 331,u 332,u 333,u 334,u 335,u 336,u 337,u 338,u 339,u 340,u 341,u 342,u 343,u 344,u 345,u 346,u 347,u 348,u 349,u 350,u 351,u 352,u 353,u 354,u 355,u 356,u 357,u 358,u 359,u 360,u 361,u 362,u 363,u 364,u 365,u 366,u 367,u 368,u 369,u 370,u 371,u 372,u 373,u 374,u 375,u 376,u 377,u 378,u 379,u 380,u 381,u 382,u 383,u 384,u 385,u 386,u 387,u 388,u 389,u 390,u 391,u 392,u 393,u 394,u 395,u 396,u 397,u 398,u 399,u 400,u 401,u 402,u 403,u 404,u 405,u 406,u 407,u 408,u 409,u 410,u 411,u 412,u 413,u 414,u 415,u 416,u 417,u 418,u 419,u 420,u 421,u 422,u 423,u 424,u 425,u 426,u 427,u 428,u 429,u 430,u 431,u 432,u 433,u 434,u 435,u 436,u 437,u 438,u 439,u 440,u 441,u 442,u 443,u 444,u 445,u 446,u 447,u 448,u 449,u 450,u 451,u 452,u 453,u 454,u 455,u 456,u 457,u 458,u 459,u 460,u 461,u 462,u 463,u 464,u 465,u 466,u 467,u 468,u 469,u 470,u 471,u 472,u 473,u 474,u 475,u 476,u 477,u 478,u 479,u 480,u 481,u 482,u 483,u 484,u 485,u 486,u 487,u 488,u 489,u 490,u 491,u 492,u 493,u 494,u 495,u 496,u 497,u 498,u 499,u 500,u 501,u 502,u 503,u 504,u 505,u 506,u 507,u 508,u 509,u 510,u 511,u 512,u 513,u 514,u 515,u 516,u 517,u 518,u 519,u 520,u 521,u 522,u 523,u 524,u 525,u 526,u 527,u 528,u 529,u 530,u 531,u 532,u 533,u 534,u 535,u 536,u 537,u 538,u 539,u 540,u 541,u 542,u 543,u 544,u 545,u 546,u 547,u 548,u 549,u 550,u 551,u 552,u 553,u 554,u 555,u 556,u 557,u 558,u 559,u 560,u 561,u 562,u 563,u 564,u 565,u 566,u 567,u 568,u 569,u 570,u 571,u 572,u 573,u 574,u 575,u 576,u 577,u 578,u 579,u 580,u 581,u 582,u 583,u 584,u 585,u 586,u 587,u 588,u 589,u 590,u 591,u 592,u 593,u 594,u 595,u 596],[]⟩):=jh (fun u=>by rw[hF]);have HFU:Hid (∀u,F u=⟨((List.range 597).map (fixU [(0,.int .i64 N),(1,.int .i64 m),(2,.slice s0 xs.length c0),(7,.pointer (some ⟨sb,0,none⟩)),(8,.int .i64 0),(9,.pointer (some ⟨wb,0,none⟩))] u)).toArray,[]⟩):=jh (fun u=>by rw[hF];kernel_rfl);have FIX:Hid (∀a':Act,a'.tmps.size=597→a'.defers=[]→slotsOf a' 0=.int .i64 N→slotsOf a' 1=.int .i64 m→slotsOf a' 2=.slice s0 xs.length c0→slotsOf a' 7=.pointer (some ⟨sb,0,none⟩)→slotsOf a' 8=.int .i64 0→slotsOf a' 9=.pointer (some ⟨wb,0,none⟩)→a'=F (slotsOf a')):=jh (fun a' hs hd h0 h1 h2 h7 h8 h9=>frame_fix HFU.out hs hd (by
  intro p hp;simp only[List.mem_cons,List.not_mem_nil,or_false] at hp;rcases hp with rfl|rfl|rfl|rfl|rfl|rfl
  ·exact h0
  ·exact h1
  ·exact h2
  ·exact h7
  ·exact h8
  ·exact h9))
 clear hF HFU;refine wp_cutS F (fun u wc=>Hid (Here w sb fb ls BB wb N mm wc)) ?_ ?_
 ·as_aux_lemma=>
  intro u wc HC;rw[FE.out u];obtain⟨rho,A,sg,L,kl,al,ri⟩:=HC.out;obtain⟨wq,hwq⟩:∃wq:World,wq=wc:=⟨_,rfl⟩
  rw[←hwq] at ri ⊢;have RI:=jh ri;have GD:Hid (∀(i:Nat) (p:Pf) (a:At),i<N→getL (A.R i) p=some a→GoodA a):=jh (fun i p a _ hp=>RI.out.srv.goodR hp);have TQ:=jh ri.top;have NE:=jh (l_nets ri.lw (by omega));clear HR FIX FE HZ HV xl hand hand2 zN ri hwq HC;go_upto_region 111 with (fail)
  go_wp2_with ((with_reducible refine jM (X:=.load 91 (.tmp 9)) ?_ ?_);(·rfl));unfold Halt;refine ld_at (by rfl) 91 (.tmp 9) rfl wb rfl 91 (wdC N A.th L) (0,0) _ TQ.out Tryz.underlying91 rfl sz_world ?_;go_wp2_with fail;refine NE.out.mono ?_;rintro e w7 ⟨sn,cn,ns,rfl,on,sn1,mn,rn,ln,b7⟩;have ON:=jh on;have SN:=jh sn1;have MN:=jh mn;have RN:=jh rn;have B7:=jh b7;have NL:Hid (ns.length≤4096):=jh ln;have NS:=jh (ls_NetsO (RI.out.srv.below b7));clear on sn1 mn rn ln b7 NE;go_wp2_with fail;refine NS.out.mono ?_;rintro e w8 ⟨s2,c2,ps,rfl,o2,p2,m2,b8⟩;obtain rfl:ps=ns:=srt_ext p2 SN.out fun p=>by rw[m2 p,MN.out p,RI.out.ok.len]
  have O2:=jh o2;have B8:=jh (jC B7.out b8);have ON8:=jh (ON.out.below b8);have nq:((ps.length:Int) !=(ps.length:Int))=false:=by simp
  have NL2:ps.length≤4096:=NL.out;clear o2 p2 m2 b8 NS B7 ON;go_upto_block 20 with (fail)
  clear nq;go_cut [460] from 461 to 471 (fun s460 wx=>Hid (Below w8.heap.size w8 wx))
  case first=>
   go_wp2_with fail;go_loopw [460] (fun t460 wr=>∃z:Nat,z≤ps.length∧t460=.int .i64 z∧Hid (Below w8.heap.size w8 wr)) (fun t460 _=>ps.length - (intOf t460).toNat)
   case atStart=>exact⟨0,by omega,rfl,jh (Below.refl _ _)⟩
   case round=>
    obtain⟨z,hz,rfl,BZ⟩:=hrel;by_cases hzl:z<ps.length
    ·obtain⟨p,hp⟩:∃p,ps[z]? =some p:=⟨_,List.getElem?_eq_getElem hzl⟩
     obtain⟨g2,o2,d0',d1',rfl,⟨hpc,-⟩,p0,p1⟩:=ps_pair (ON8.out.below BZ.out).at hp;injection hpc with q1 q2;injection q2 with q2 _;subst q1;subst q2;obtain⟨g3,o3,d2',d3',rfl,⟨hpc,-⟩,p2,p3⟩:=ps_pair (O2.out.below BZ.out).at hp;injection hpc with q1 q2;injection q2 with q2 _;subst q1;subst q2;have z0:(0:Int)≤(z:Int):=by omega
     have z1:(z:Int)<(ps.length:Int):=by omega
     have ZL:=jh hzl;have zw:IntKind.i64.wrap ((z:Int)+1)=((z+1:Nat):Int):=by rw[IntWalk.i64_in _ (by omega)];omega
     clear hp hz hzl;go_upto_region 118 with (fail)
     obtain⟨v1,hv1,q0,q1,hb1⟩:=box2 wr (.int .u32 p.1) (.int .i64 p.2) 53;rw[←hv1];obtain⟨pb,hpb⟩:∃pb,pb=wr.heap.size:=⟨_,rfl⟩
     rw[←hpb] at q0 q1 ⊢;replace p2:=jA p2 hb1;replace p3:=jA p3 hb1;have BZ1:=jh (jC BZ.out hb1);clear hv1 hb1 hpb p0 p1 BZ;refine wp_region_held_drew (S:=fun w'=>Below v1.heap.size v1 w') (by kernel_rfl) ?_ (fun hHeld=>?_)
     ·exact(Below.refl _ _).drew
     generalize World.drew v1=wd at hHeld ⊢;refine qz 0 hHeld ?_;refine qz 1 hHeld ?_;refine qz 2 hHeld ?_ (hy:=by intro w' hSw;have p2:=jA p2 hSw;have p3:=jA p3 hSw;have q0:=jA q0 hSw;have q1:=jA q1 hSw;(try clear hHeld);go_simp;try with_reducible rfl);refine qz 3 hHeld ?_ (hy:=by intro w' hSw;have p2:=jA p2 hSw;have p3:=jA p3 hSw;have q0:=jA q0 hSw;have q1:=jA q1 hSw;(try clear hHeld);go_simp;try with_reducible rfl);refine qz 4 hHeld ?_ (hy:=by intro w' hSw;have p2:=jA p2 hSw;have p3:=jA p3 hSw;have q0:=jA q0 hSw;have q1:=jA q1 hSw;(try clear hHeld);go_simp;try with_reducible rfl);refine qz 5 hHeld ?_;refine wpAnyH_done (by kernel_rfl) ?_ _;have BZ2:=jh (jC BZ1.out hHeld);clear BZ1 p2 p3 q0 q1 hHeld;go_wp2_with fail;exact⟨⟨z+1,by have:=ZL.out;omega,rfl,BZ2⟩,by have:=ZL.out;simp only[intOf];omega⟩
    ·obtain rfl:z=ps.length:=by omega
     have BE:=jh BZ.out;clear BZ hz hzl;go_wp2_with fail;go_meet;exact BE
  case rest=>
   obtain⟨w9,hw9,BS⟩:∃w9:World,w9=_∧Hid (Below w8.heap.size w8 w9):=⟨_,rfl,hcut⟩
   rw[←hw9];have B9:=jh (jC B8.out BS.out);have ON9:=jh (ON8.out.below BS.out);have RI9:=jh (RI.out.below B9.out);have T9:=jh RI9.out.top;clear hcut hw9 BS B8 B9 ON8 O2 RI TQ;go_wp2_with fail;go_loopw [45] (fun t45 wr=>∃q:Nat,q≤N∧t45=.int .i64 q∧Hid (Below w9.heap.size w9 wr)) (fun t45 _=>N - (intOf t45).toNat)
   case atStart=>exact⟨0,by omega,rfl,jh (Below.refl _ _)⟩
   case round=>
    obtain⟨q,hq,rfl,BV⟩:=hrel;by_cases hqn:q<N
    ·as_aux_lemma=>
     have QK:=jh hqn;have RIV:=jh (RI9.out.below BV.out);have QV:Hid (q<A.V.length):=jh (by rw[RI9.out.ok.len];exact hqn);have BT:=jh (ls_Bests RIV.out.srv (i:=q) QV.out);have q0':(0:Int)≤(q:Int):=by omega
     have qN:(q:Int)<(N:Int):=by omega
     have q16:(q:Int)<16:=by omega
     have qw:IntKind.i64.wrap ((q:Int)+1)=((q+1:Nat):Int):=by rw[IntWalk.i64_in _ (by omega)];omega
     clear hq hqn;go_wp2_with fail;refine BT.out.mono ?_;rintro e v1 ⟨s8,c8,LB,AB,rfl,ob,sbp,vb,ab,hb1⟩;have BF:=jh (bests_filter SN.out (fun p b hb=>(MN.out p).2 (RI9.out.ok.best_says QK.out hb)) sbp (fun x hx=>(vb x hx).1) ab);have VB:Hid (∀x∈LB,A.best q x.p=some (x.peer,x.a)):=jh (fun x hx=>(vb x hx).1);have OB:Hid (SlAt v1 13 (fun x cs=>cs=beL x) (.slice s8 LB.length c8) LB∧∀x∈LB,AvAt v1 x.a x.v):=jh (by
      have h:=(ob.fresh beL_len).self;exact⟨h.1,fun x hx=>(h.2 x hx).at⟩)
     have B1:=jh (jC BV.out hb1);have LBL:LB.length≤9223372036854775807:=by
      obtain⟨sa,cap,-,g1,g2,-⟩:=OB.out.1;exact Nat.le_trans g1 g2
     have LBN:Hid (LB.length=cntB (A.best q) ps ps.length):=jh (bests_len BF.out);clear ob sbp vb ab hb1 BT BV RIV;go_upto_block 24 with (fail)
     go_cut [47] from 482 to 569 (fun s47 wx=>s47=.int .i64 LB.length∧Hid (Below v1.heap.size v1 wx))
     case first=>
      go_wp2_with fail;go_loopw [47,482] (fun t47 t482 wz=>∃z:Nat,z≤ps.length∧t482=.int .i64 z∧t47=.int .i64 (cntB (A.best q) ps z)∧Hid (Below v1.heap.size v1 wz)) (fun _ t482 _=>ps.length - (intOf t482).toNat)
      case atStart=>exact⟨0,by omega,rfl,rfl,jh (Below.refl _ _)⟩
      case round=>
       obtain⟨z,hz,rfl,rfl,BZ⟩:=hrel;by_cases hzl:z<ps.length
       ·as_aux_lemma=>
        obtain⟨p,hp⟩:∃p,ps[z]? =some p:=⟨_,List.getElem?_eq_getElem hzl⟩
        have HP:=jh hp;have RP:=jh (RN.out p (List.mem_of_getElem? hp));have B9z:=jh (jC B1.out BZ.out);obtain⟨g2,o2,d0',d1',rfl,⟨hpc,-⟩,p0,p1⟩:=ps_pair (ON9.out.below B9z.out).at hp;injection hpc with q1 q2;injection q2 with q2 _;subst q1;subst q2;have z0:(0:Int)≤(z:Int):=by omega
        have z1:(z:Int)<(ps.length:Int):=by omega
        have ZL:=jh hzl;have zw:IntKind.i64.wrap ((z:Int)+1)=((z+1:Nat):Int):=by rw[IntWalk.i64_in _ (by omega)];omega
        obtain⟨ct,hct⟩:∃ct,cntB (A.best q) ps z=ct:=⟨_,rfl⟩
        have HCT:=jh hct;have CL:Hid (ct≤z):=jh (by rw[←hct];exact cntB_le _ _ _);have CST:=jh (cntB_step (f:=A.best q) hp);rw[hct];rw[hct] at CST;clear hp hz hzl hct;go_upto_region 129 with (fail)
        obtain⟨v2,hv2,r0,r1,hb2⟩:=box2 wr (.int .u32 p.1) (.int .i64 p.2) 53;rw[←hv2];obtain⟨pb,hpb⟩:∃pb,pb=wr.heap.size:=⟨_,rfl⟩
        rw[←hpb] at r0 r1 ⊢;have R0:=jh r0;have R1:=jh r1;have BZ2:=jh (jC BZ.out hb2);have RI2:=jh (RI9.out.below (jC B1.out BZ2.out));have WB:=jh (l_wbest RI2.out.lw (by omega) QK.out p RP.out.1 GD.out);rw[RI2.out.ok.best QK.out p] at WB;clear hv2 hb2 hpb BZ p0 p1 B9z;go_wp2_with ((with_reducible refine jM (X:=.load 91 (.tmp 9)) ?_ ?_);(·rfl));unfold Halt;refine ld_at (by rfl) 91 (.tmp 9) rfl wb rfl 91 (wdC N A.th L) (0,0) _ RI2.out.top Tryz.underlying91 rfl sz_world ?_;go_wp2_with fail;refine WB.out.mono ?_;intro e v3 hbw;obtain⟨cb,pe,pp,u2,rfl,hcb,hcx,hcf,hb3⟩:=hbw.uni;have HCB:=jh hcb;have HCX:=jh hcx;obtain⟨bk,hbk⟩:∃bk,cb.isSome=bk:=⟨_,rfl⟩
        have HBK:=jh hbk;rw[hbk];have HCF:Hid (∀x,cb=some x→AvAt v3 x.a x.v):=jh (fun x hx=>(hcf x hx).self);have R03:=jh (jA R0.out hb3);have R13:=jh (jA R1.out hb3);have BZ3:=jh (jC BZ2.out hb3);clear hcb hcx hcf hbk hbw hb3 WB R0 R1 BZ2 RI2 r0 r1;go_wp2_with ((with_reducible refine jM (X:=.store 61 (.tmp 50) (.tmp 491)) ?_ ?_);(·rfl));unfold Halt;refine st_fresh rfl 61 (.tmp 50) (.tmp 491) rfl rfl _ (rtC pe pp u2) rfl sz_rt rfl (rt_one _ _ _) ?_;obtain⟨v4,hv4,q4,hb4,-⟩:=box1 v3 (rtC pe pp u2) 61;rw[←hv4];obtain⟨qb,hqb⟩:∃qb,qb=v3.heap.size:=⟨_,rfl⟩
        rw[←hqb] at q4 ⊢;simp only[Act.put];have Q4:=jh q4;have r0:=jA R03.out hb4;have r1:=jA R13.out hb4;have HCF4:Hid (∀x,cb=some x→AvAt v4 x.a x.v):=jh (fun x hx=>(HCF.out x hx).below hb4);have BZ4:=jh (jC BZ3.out hb4);have RI4:=jh (RI9.out.below (jC B1.out BZ4.out));have SB:=jh ((ls_Best RI4.out.srv (i:=q) QV.out p RP.out.key).mono fun e w' h=>BestPost.w h);have R04:=jh r0;have R14:=jh r1;clear hv4 hb4 hqb q4 R03 R13 HCF BZ3;go_wp2_with fail;refine SB.out.mono ?_;intro e v5 hbw;obtain⟨cc,pe2,pp2,u3,rfl,hcc,hccx,hccf,hb5⟩:=hbw.uni;have HCC:=jh hcc;have HCCX:=jh hccx;obtain⟨bk2,hbk2⟩:∃bk2,cc.isSome=bk2:=⟨_,rfl⟩
        have HBK2:=jh hbk2;rw[hbk2];have HCCF:Hid (∀x,cc=some x→AvAt v5 x.a x.v):=jh (fun x hx=>(hccf x hx).self);have R05:=jh (jA R04.out hb5);have R15:=jh (jA R14.out hb5);have Q5:=jh ((hb5.block _ (jE Q4.out)).trans Q4.out);have HCF5:Hid (∀x,cb=some x→AvAt v5 x.a x.v):=jh (fun x hx=>(HCF4.out x hx).below hb5);have BZ5:=jh (jC BZ4.out hb5);clear hcc hccx hccf hbk2 hbw hb5 SB R04 R14 Q4 BZ4 HCF4 RI4 r0 r1;go_wp2_with ((with_reducible refine jM (X:=.store 61 (.tmp 52) (.tmp 498)) ?_ ?_);(·rfl));unfold Halt;refine st_fresh rfl 61 (.tmp 52) (.tmp 498) rfl rfl _ (rtC pe2 pp2 u3) rfl sz_rt rfl (rt_one _ _ _) ?_;obtain⟨v6,hv6,q6,hb6,-⟩:=box1 v5 (rtC pe2 pp2 u3) 61;rw[←hv6];obtain⟨qc,hqc⟩:∃qc,qc=v5.heap.size:=⟨_,rfl⟩
        rw[←hqc] at q6 ⊢;simp only[Act.put];have Q6c:=jh q6;have Q6:=jh ((hb6.block _ (jE Q5.out)).trans Q5.out);have R06:=jh (jA R05.out hb6);have R16:=jh (jA R15.out hb6);have HCF6:Hid (∀x,cb=some x→AvAt v6 x.a x.v):=jh (fun x hx=>(HCF5.out x hx).below hb6);have HCCF6:Hid (∀x,cc=some x→AvAt v6 x.a x.v):=jh (fun x hx=>(HCCF.out x hx).below hb6);have BZ6:=jh (jC BZ5.out hb6);have DD:=jh (dueB_same HCB.out HCC.out (fun x hx=>(HCX.out x hx).1) (fun x hx=>(HCCX.out x hx).1));clear hv6 hb6 hqc q6 R05 R15 Q5 HCF5 HCCF BZ5;go_upto_region 131 with (fail)
        go_cut [511] from 500 to 511 (fun s511 wx=>s511=.bool false∧Hid (Below v6.heap.size v6 wx))
        case first=>
         rcases cb with _|x
         ·obtain rfl:bk=false:=HBK.out.symm;rcases cc with _|yv
          ·obtain rfl:bk2=false:=HBK2.out.symm;go_wp2_with fail;go_meet;exact⟨rfl,jh (Below.refl _ _)⟩
          ·exact absurd DD.out (by intro h;cases h)
         ·obtain rfl:bk=true:=HBK.out.symm;rcases cc with _|yv
          ·exact absurd DD.out (by intro h;cases h)
          ·obtain rfl:bk2=true:=HBK2.out.symm;obtain⟨-,f1,f2,f3⟩:=HCX.out x rfl;obtain⟨-,f4,f5,f6⟩:=HCCX.out yv rfl;have SM:=jh (l_same14 x yv v6 (HCF6.out x rfl) (HCCF6.out yv rfl));have SE:sameBE x yv=true:=by have:(!sameBE x yv)=false:=DD.out;simpa using this
           rw[SE] at SM;subst f1;subst f2;subst f3;subst f4;subst f5;subst f6;clear SE;go_wp2_with ((with_reducible refine jM (X:=.load 61 (.tmp 50)) ?_ ?_);(·rfl));unfold Halt;refine ld_at (by rfl) 61 (.tmp 50) rfl qb rfl 61 (rtC x.peer x.p x.v) (0,0) _ Q6.out Tryz.underlying61 rfl sz_rt ?_;go_wp2_with ((with_reducible refine jM (X:=.load 61 (.tmp 52)) ?_ ?_);(·rfl));unfold Halt;refine ld_at (by rfl) 61 (.tmp 52) rfl qc rfl 61 (rtC yv.peer yv.p yv.v) (0,0) _ Q6c.out Tryz.underlying61 rfl sz_rt ?_;go_wp2_with fail;refine SM.out.mono ?_;rintro e v7 ⟨rfl,hb7⟩;have HB7:=jh hb7;clear hb7 SM;go_wp2_with fail;go_meet;exact⟨rfl,HB7⟩
        case rest=>
         obtain⟨rfl,HH⟩:=hcut;obtain⟨v7,hv7⟩:∃v7:World,v7=wc:=⟨_,rfl⟩
         rw[←hv7] at HH ⊢;have BZ7:=jh (jC BZ6.out HH.out);have R07:=jh (jA R06.out HH.out);have R17:=jh (jA R16.out HH.out);have Q7:=jh ((HH.out.block _ (jE Q6.out)).trans Q6.out);have HCF7:Hid (∀x,cb=some x→AvAt v7 x.a x.v):=jh (fun x hx=>(HCF6.out x hx).below HH.out);have RI7:=jh (RI9.out.below (jC B1.out BZ7.out));have OFS:=jh (ls_Offers RI7.out.srv (i:=q) QV.out p RP.out.key);have r0:=R07.out;have r1:=R17.out;clear hv7 HH BZ6 R06 R16 Q6 Q6c HCF6 HCCF6 HCC HCCX HBK2 DD;go_wp2_with fail;refine OFS.out.mono ?_;rintro e v8 ⟨so,co,LO,AO,rfl,oo,pm,lp,l0,hb8⟩;have OO:Hid (SlAt v8 13 (fun x cs=>cs=beL x) (.slice so LO.length co) LO∧∀x∈LO,AvAt v8 x.a x.v):=jh (oo.fresh beL_len).self;have LO1:Hid (LO.length=(A.offs q p).length):=jh (by have:=pm.length_eq;simpa using this);have LP:=jh lp;have L0:=jh l0;have R08:=jh (jA R07.out hb8);have R18:=jh (jA R17.out hb8);have Q8:=jh ((hb8.block _ (jE Q7.out)).trans Q7.out);have HCF8:Hid (∀x,cb=some x→AvAt v8 x.a x.v):=jh (fun x hx=>(HCF7.out x hx).below hb8);have BZ8:=jh (jC BZ7.out hb8);have RI8:=jh (RI9.out.below (jC B1.out BZ8.out));have OFL:=jh (l_offers RI8.out.lw (by omega) QK.out p RP.out.1);replace r0:=R08.out;replace r1:=R18.out;clear oo pm lp l0 hb8 OFS R07 R17 Q7 HCF7 BZ7 RI7;go_wp2_with ((with_reducible refine jM (X:=.load 91 (.tmp 9)) ?_ ?_);(·rfl));unfold Halt;refine ld_at (by rfl) 91 (.tmp 9) rfl wb rfl 91 (wdC N A.th L) (0,0) _ RI8.out.top Tryz.underlying91 rfl sz_world ?_;go_wp2_with fail;refine OFL.out.mono ?_;rintro e va ⟨sx,cx,xs',AX,rfl,oc,xe,hba⟩;have OC:=jh oc.at;have XE:Hid (xs'.map (·.c)=wof A.R A.th A.bl q p N):=jh xe;have LX:Hid (LO.length=xs'.length):=jh (by rw[LO1.out,←RI9.out.ok.offs QK.out p,←xe,List.length_map]);have OOA:Hid (SlAt va 13 (fun x cs=>cs=beL x) (.slice so LO.length co) LO∧∀x∈LO,AvAt va x.a x.v):=jh ⟨SlAt.below OO.out.1 hba fun _ _ h=>h,fun x hx=>(OO.out.2 x hx).below hba⟩;have R0A:=jh (jA R08.out hba);have R1A:=jh (jA R18.out hba);have QA:=jh ((hba.block _ (jE Q8.out)).trans Q8.out);have HCFA:Hid (∀x,cb=some x→AvAt va x.a x.v):=jh (fun x hx=>(HCF8.out x hx).below hba);have BZA:=jh (jC BZ8.out hba);have LOM:LO.length≤9223372036854775807:=by
          obtain⟨sa,cap,-,g1,g2,-⟩:=OOA.out.1;exact Nat.le_trans g1 g2
         obtain⟨K,hK⟩:∃K,LO.length=K:=⟨_,rfl⟩
         have HK:=jh hK;rw[hK] at LX LOM OOA ⊢;have LXE:=jh LX.out.symm;rw[LXE.out] at OC ⊢;have nq:((K:Int) !=(K:Int))=false:=by simp
         clear oc xe hba hK OFL R08 R18 Q8 HCF8 BZ8 RI8 OO LX r0 r1;go_upto_region 135 with (fail)
         go_cut [537] from 520 to 537 (fun s537 wx=>s537=.bool false∧Hid (Below va.heap.size va wx))
         case first=>
          as_aux_lemma=>
           rcases Nat.eq_zero_or_pos K with h0|hpos
           ·have di:decide ((K:Int)>0)=false:=by simp;omega
            have di2:decide ((0:Int)<(K:Int))=false:=by simp;omega
            have di3:decide (0<K)=false:=by simp;omega
            clear h0;refine wp_region_held_drew (S:=fun w'=>Below va.heap.size va w') (by kernel_rfl) ?_ (fun hHeld=>?_)
            ·exact(Below.refl _ _).drew
            generalize World.drew va=wd at hHeld ⊢;refine qz 0 hHeld ?_;refine qz 1 hHeld ?_;refine qz 2 hHeld ?_;refine qz 3 hHeld ?_;refine qz 4 hHeld ?_;refine qz 5 hHeld ?_;refine qz 6 hHeld ?_;refine qz 7 hHeld ?_;refine qz 8 hHeld ?_;refine qz 9 hHeld ?_;refine rgn (i:=10) (atN rfl) (by kernel_rfl) (fun _ _ _ h=>h) ?_ hHeld ?_;(·rfl);(try simp only[jz]);refine rgn (i:=11) (atN rfl) (by kernel_rfl) (fun _ _ _ h=>h) ?_ hHeld ?_;(·rfl);(try simp only[jz]);refine rgn (i:=12) (atN rfl) (by kernel_rfl) (fun _ _ _ h=>h) ?_ hHeld ?_;(·rfl);(try simp only[jz]);refine rgn (i:=13) (atN rfl) (by kernel_rfl) (fun _ _ _ h=>h) ?_ hHeld ?_;(·rfl);(try simp only[jz]);refine rgn (i:=14) (atN rfl) (by kernel_rfl) (fun _ _ _ h=>h) ?_ hHeld ?_;(·rfl);(try simp only[jz]);refine rgn (i:=15) (atN rfl) (by kernel_rfl) (fun _ _ _ h=>h) ?_ hHeld ?_;(·rfl);(try simp only[jz]);refine qz 16 hHeld ?_;refine qz 17 hHeld ?_;refine wpAnyH_done (by kernel_rfl) ?_ _;go_wp2_with fail;go_meet;exact⟨rfl,jh hHeld⟩
           ·obtain⟨x,hx⟩:∃x,LO[0]? =some x:=⟨_,List.getElem?_eq_getElem (by rw[HK.out];exact hpos)⟩
            have hxm:=List.mem_of_getElem? hx;have di:decide ((K:Int)>0)=true:=by simp;omega
            have di2:decide ((0:Int)<(K:Int))=true:=by simp;omega
            have di3:decide (0<K)=true:=by simp;omega
            have k1:(0:Int)<(K:Int):=by omega
            have hbb:A.best q p=some (x.peer,x.a):=L0.out x hx;have OOK:=OOA.out.1;rw[←HK.out] at OOK;obtain⟨gx,ox,hso,hrx⟩:=be_at OOK hx;subst hso;have RX:=jh hrx;have AX2:=jh (OOA.out.2 x hxm);have XP:=jh (LP.out x hxm);rcases cb with _|b
            ·have h1:=HCB.out;rw[hbb] at h1;cases h1
            ·have h1:=HCB.out;rw[hbb] at h1;simp only[Option.map_some,Option.some.injEq,Prod.mk.injEq] at h1;obtain⟨f0,f1,f2,f3⟩:=HCX.out b rfl;have SE:sameBE x b=true:=sameBE_iff.2 ⟨h1.1.symm,XP.out.trans f0.symm,h1.2.symm⟩;have SM:=jh (fun w' (hb:Below va.heap.size va w')=>l_same14 x b w' (AX2.out.below hb) ((HCFA.out b rfl).below hb));rw[SE] at SM;subst f1;subst f2;subst f3;clear h1 SE hx hxm hbb hrx OOK f0;refine wp_region_held_drew (S:=fun w'=>Below va.heap.size va w') (by kernel_rfl) ?_ (fun hHeld=>?_)
             ·exact(Below.refl _ _).drew
             generalize World.drew va=wd at hHeld ⊢;refine qz 0 hHeld ?_;refine qz 1 hHeld ?_;refine qz 2 hHeld ?_;refine qz 3 hHeld ?_;refine qz 4 hHeld ?_;refine qz 5 hHeld ?_;refine qz 6 hHeld ?_;refine qz 7 hHeld ?_;refine qz 8 hHeld ?_;refine qz 9 hHeld ?_;refine qz 10 hHeld ?_;refine qz 11 hHeld ?_;refine qz 12 hHeld ?_ (hy:=by intro w' hSw;refine exec_ldm 61 (.tmp 531) ?_ gx ox ?_ (beL x) _ (fun j u hj=>by have:=jA (RX.out j u hj) hSw;simpa using this) Tryz.underlying61 rfl sz_rt<;>rfl);refine qz 13 hHeld ?_ (hy:=by intro w' hSw;refine exec_ld 61 (.tmp 50) ?_ qb ?_ 61 (rtC b.peer b.p b.v) (0,0) _ ((hSw.block _ (jE QA.out)).trans QA.out) Tryz.underlying61 rfl sz_rt<;>rfl);refine jr 14 fun K hK=>?_;(try clear hb);go_simp;(refine(SM.out _ hHeld).mono ?_;rintro e w1 ⟨rfl,hb⟩);go_wp2_with fail;refine hK.out _ _ ?_ (fun hHeld=>?_);(·exact hHeld.trans (hb.mono hHeld.size));clear hK K;(try simp only[jz]);refine qz 15 hHeld ?_;refine qz 16 hHeld ?_;refine qz 17 hHeld ?_;refine wpAnyH_done (by kernel_rfl) ?_ _;go_wp2_with fail;go_meet;exact⟨rfl,jh hHeld⟩
         case rest=>
          as_aux_lemma=>
           obtain⟨rfl,HH⟩:=hcut;obtain⟨vb,hvb⟩:∃vb:World,vb=wc:=⟨_,rfl⟩
           rw[←hvb] at HH ⊢;have BZB:=jh (jC BZA.out HH.out);have R0B:=jh (jA R0A.out HH.out);have R1B:=jh (jA R1A.out HH.out);have QB:=jh ((HH.out.block _ (jE QA.out)).trans QA.out);have HCFB:Hid (∀x,cb=some x→AvAt vb x.a x.v):=jh (fun x hx=>(HCFA.out x hx).below HH.out);have OCB:=jh (OC.out.below HH.out);clear hvb HH BZA R0A R1A QA HCFA OC OOA nq LP L0 LO1;go_upto_block 26 with (fail)
           go_cut [540] from 541 to 552 (fun s540 wx=>Hid (Below vb.heap.size vb wx))
           case first=>
            go_wp2_with fail;go_loopw [540] (fun t540 wz=>∃k:Nat,k≤K∧t540=.int .i64 k∧Hid (Below vb.heap.size vb wz)) (fun t540 _=>K - (intOf t540).toNat)
            case atStart=>exact⟨0,by omega,rfl,jh (Below.refl _ _)⟩
            case round=>
             obtain⟨k,hk,rfl,BK⟩:=hrel;by_cases hkk:k<K
             ·obtain⟨x,hx⟩:∃x,xs'[k]? =some x:=⟨_,List.getElem?_eq_getElem (by rw[LXE.out];exact hkk)⟩
              obtain⟨gx,ox,rfl,hr,-⟩:=cvs_at (OCB.out.below BK.out) hx;have RX:=jh hr;obtain⟨n',hn',hpe,hgo⟩:=RI9.out.ok.offer_goes QK.out (p:=p) (c:=x.c) (by rw[←XE.out];exact List.mem_map.2 ⟨x,List.mem_of_getElem? hx,rfl⟩);have HPE:=jh hpe;have RIK:=jh (RI9.out.below (jC B1.out (jC BZB.out BK.out)));have GO:=jh (fun w' (hb:Below wr.heap.size wr w')=>ls_Goes (RIK.out.srv.below hb) (i:=n') (j:=q) (by rw[RIK.out.ok.len];exact hn') QV.out p RP.out.1);rw[hgo] at GO;have k0:(0:Int)≤(k:Int):=by omega
              have k1:(k:Int)<(K:Int):=by omega
              have KL:=jh hkk;have kw:IntKind.i64.wrap ((k:Int)+1)=((k+1:Nat):Int):=by rw[IntWalk.i64_in _ (by omega)];omega
              clear hx hr hn' hpe hgo hk hkk;go_wp2_with ((with_reducible refine jM (X:=.load 99 (.tmp 542)) ?_ ?_);(·rfl));unfold Halt;refine ldm_at (by rfl) 99 (.tmp 542) rfl gx (ox+k*14) rfl (cvL x) _ RX.out Tryz.underlying99 rfl sz_cand ?_;go_wp2_with ((with_reducible refine jM (X:=.store 99 (.tmp 57) (.tmp 543)) ?_ ?_);(·rfl));unfold Halt;refine st_fresh rfl 99 (.tmp 57) (.tmp 543) rfl rfl _ (cvA x) rfl sz_cand rfl (cv_one x) ?_;obtain⟨vc,hvc,qc',hbc,-⟩:=box1 wr (cvA x) 99;rw[←hvc];obtain⟨bc,hbcc⟩:∃bc,bc=wr.heap.size:=⟨_,rfl⟩
              rw[←hbcc] at qc' ⊢;simp only[Act.put];have y0:vc.cell? ⟨bc,0,none⟩=some (.int .i64 (n':Int)):=by rw[←HPE.out];exact jB qc' 0
              have r0:=jA (jA R0B.out BK.out) hbc;have r1:=jA (jA R1B.out BK.out) hbc;have GOC:=jh (GO.out vc hbc);have BKC:=jh (jC BK.out hbc);clear hvc hbc hbcc qc' GO BK RIK;go_wp2_with fail;refine GOC.out.mono ?_;rintro e vd ⟨rfl,hbd⟩;have BKD:=jh (jC BKC.out hbd);clear hbd GOC BKC y0 r0 r1;go_wp2_with fail;exact⟨⟨k+1,by have:=KL.out;omega,rfl,BKD⟩,by have:=KL.out;simp only[intOf];omega⟩
             ·obtain rfl:k=K:=by omega
              have BE:=jh BK.out;clear BK hk hkk;go_wp2_with fail;go_meet;exact BE
           case rest=>
            as_aux_lemma=>
             obtain⟨ve,hve,HH⟩:∃ve:World,ve=wc∧Hid (Below vb.heap.size vb ve):=⟨_,rfl,hcut⟩
             rw[←hve];have BZE:=jh (jC BZB.out HH.out);have QE:=jh ((HH.out.block _ (jE QB.out)).trans QB.out);have HCFE:Hid (∀x,cb=some x→AvAt ve x.a x.v):=jh (fun x hx=>(HCFB.out x hx).below HH.out);clear hcut hve HH BZB R0B R1B QB HCFB OCB LOM;rcases cb with _|b
             ·obtain rfl:bk=false:=HBK.out.symm;have CNT:Hid (cntB (A.best q) ps (z+1)=ct):=jh (by
               have h1:=HCB.out;rw[CST.out,←h1];rfl)
              go_wp2_with fail;exact⟨⟨z+1,by have:=ZL.out;omega,rfl,by rw[CNT.out],BZE⟩,by have:=ZL.out;simp only[intOf];omega⟩
             ·obtain rfl:bk=true:=HBK.out.symm;have hb0:A.best q p=some (b.peer,b.a):=HCB.out.symm;have CNT:Hid (cntB (A.best q) ps (z+1)=ct+1):=jh (by rw[CST.out,hb0];rfl);obtain⟨x,hx,hxp,hxb⟩:=bests_at BF.out VB.out HP.out hb0;rw[HCT.out] at hx;have hcl:ct<LB.length:=(List.getElem?_eq_some_iff.1 hx).1;obtain⟨f0,f1,f2,f3⟩:=HCX.out b rfl;have SE:sameBE x b=true:=sameBE_iff.2 ⟨congrArg Prod.fst hxb,hxp.trans f0.symm,congrArg Prod.snd hxb⟩;obtain⟨gl,ol,rfl,hrx⟩:=be_at (SlAt.below OB.out.1 BZE.out fun _ _ h=>h) hx;have RX:=jh hrx;have SM:=jh (fun w' (hb:Below ve.heap.size ve w')=>l_same14 x b w' (((OB.out.2 x (List.mem_of_getElem? hx)).below BZE.out).below hb) ((HCFE.out b rfl).below hb));rw[SE] at SM;have c0:(0:Int)≤(ct:Int):=by omega
              have c1:(ct:Int)<(LB.length:Int):=by omega
              have c2:decide ((ct:Int)≥(LB.length:Int))=false:=by simp;omega
              have c3:decide (LB.length≤ct)=false:=by simp;omega
              have cw:IntKind.i64.wrap ((ct:Int)+1)=((ct+1:Nat):Int):=by rw[IntWalk.i64_in _ (by omega)];omega
              subst f1;subst f2;subst f3;clear hb0 hx hxp hxb hcl SE hrx f0;go_upto_region 144 with (fail)
              go_cut [566] from 554 to 566 (fun s566 wx=>s566=.bool false∧Hid (Below ve.heap.size ve wx))
              case first=>
               refine wp_region_held_drew (S:=fun w'=>Below ve.heap.size ve w') (by kernel_rfl) ?_ (fun hHeld=>?_)
               ·exact(Below.refl _ _).drew
               generalize World.drew ve=wd at hHeld ⊢;refine qz 0 hHeld ?_;refine qz 1 hHeld ?_;refine qz 2 hHeld ?_;refine qz 3 hHeld ?_;refine qz 4 hHeld ?_;refine qz 5 hHeld ?_;refine qz 6 hHeld ?_;refine qz 7 hHeld ?_;refine qz 8 hHeld ?_ (hy:=by intro w' hSw;refine exec_ldm 61 (.tmp 561) ?_ gl (ol+ct*13) ?_ (beL x) _ (fun j u hj=>jA (RX.out j u hj) hSw) Tryz.underlying61 rfl sz_rt<;>rfl);refine qz 9 hHeld ?_ (hy:=by intro w' hSw;refine exec_ld 61 (.tmp 50) ?_ qb ?_ 61 (rtC b.peer b.p b.v) (0,0) _ ((hSw.block _ (jE QE.out)).trans QE.out) Tryz.underlying61 rfl sz_rt<;>rfl);refine jr 10 fun K hK=>?_;(try clear hb);go_simp;(refine(SM.out _ hHeld).mono ?_;rintro e w1 ⟨rfl,hb⟩);go_wp2_with fail;refine hK.out _ _ ?_ (fun hHeld=>?_);(·exact hHeld.trans (hb.mono hHeld.size));clear hK K;(try simp only[jz]);refine qz 11 hHeld ?_;refine qz 12 hHeld ?_;refine wpAnyH_done (by kernel_rfl) ?_ _;go_wp2_with fail;go_meet;exact⟨rfl,jh hHeld⟩
              case rest=>
               obtain⟨vf,hvf,HH⟩:∃vf:World,vf=_∧Hid (Below ve.heap.size ve vf):=⟨_,rfl,hcut.2⟩
               obtain⟨rfl,-⟩:=hcut;rw[←hvf];have BZF:=jh (jC BZE.out HH.out);clear hvf HH BZE c0 c1 c2 c3 SM;go_wp2_with fail;exact⟨⟨z+1,by have:=ZL.out;omega,rfl,by rw[CNT.out];first|rfl|simp|(congr 1;omega),BZF⟩,by have:=ZL.out;simp only[intOf];omega⟩
       ·as_aux_lemma=>
        obtain rfl:z=ps.length:=by omega
        have BE:=jh BZ.out;rw[←LBN.out];clear BZ hz hzl;go_wp2_with fail;go_meet;exact⟨rfl,BE⟩
     case rest=>
      as_aux_lemma=>
       obtain⟨rfl,HH⟩:=hcut;obtain⟨vb,hvb⟩:∃vb:World,vb=wc:=⟨_,rfl⟩
       rw[←hvb] at HH ⊢;have RIB:=jh (RI9.out.below (jC B1.out HH.out));have BVB:=jh (jC B1.out HH.out);obtain⟨rb,-,hcell,hrib⟩:=RIB.out.lw.ribs QK.out;have y0:vb.cell? ⟨L.rg,q,none⟩=some (.pointer (some ⟨rb,0,none⟩)):=hcell;have x17:vb.cell? ⟨wb,17,none⟩=some (.slice (some ⟨L.rg,0,none⟩) N L.rc):=jB RIB.out.top 17;obtain⟨th,hth⟩:∃th,A.th q=th:=⟨_,rfl⟩
       have up:vb.cell? ⟨wb,1+q,none⟩=some (.bool th):=by rw[←hth];exact top_up RIB.out.top (by have:=QK.out;omega)
       have TH:Hid (∀w',Below vb.heap.size vb w'→Calls Tryz.prog 28 #[.pointer (some ⟨sb,0,none⟩),.int .i64 q] w' fun e w2=>e=.returned (.bool th)∧Below w'.heap.size w' w2):=jh (fun w' hb=>(ls_There (RIB.out.srv.below hb) (i:=q) QV.out).mono fun e w2 h=>by
        rw[hth] at h;obtain⟨h1,rfl⟩:=h;exact⟨h1,Below.refl _ _⟩)
       obtain⟨M,hM⟩:∃M,(A.R q).length=M:=⟨_,rfl⟩
       have RT:Hid (∀w',Below vb.heap.size vb w'→Calls Tryz.prog 23 #[.pointer (some ⟨sb,0,none⟩),.int .i64 q] w' fun e w2=>∃(s:Option Addr) (c:Nat),e=.returned (.slice s M c)∧Below w'.heap.size w' w2):=jh (fun w' hb=>(ls_Routes (RIB.out.srv.below hb) (i:=q) QV.out).mono fun e w2 h=>by
        obtain⟨v,vs,rfl,re,h2,h3,h4⟩:=h;obtain⟨s,c,rfl,-⟩:=jV re.own;have h5:=keys_lenS h2 h3 (rib_apart hrib);rw[List.length_map,hM] at h5;rw[h5];exact⟨s,c,rfl,h4⟩)
       have LN:Hid (∀w',Below vb.heap.size vb w'→Calls Tryz.prog 46 #[.pointer (some ⟨rb,0,none⟩)] w' fun e w2=>e=.returned (.int .i64 M)∧Below w'.heap.size w' w2):=jh (fun w' hb=>(ad_Len (hrib.below hb)).mono fun e w2 h=>by
        rw[hM] at h;obtain⟨h1,rfl⟩:=h;exact⟨h1,Below.refl _ _⟩)
       have n1:((LB.length:Int) !=(LB.length:Int))=false:=by simp
       have n2:(th !=th)=false:=by cases th<;>rfl
       have n3:((M:Int) !=(M:Int))=false:=by simp
       have QL:=jh QK.out;clear hvb HH hcell hrib hth hM B1 BF VB OB LBN RIB;go_upto_region 148 with (fail)
       go_cut [596] from 570 to 596 (fun s596 wx=>s596=.bool false∧Hid (Below vb.heap.size vb wx))
       case first=>
        refine wp_region_held_drew (S:=fun w'=>Below vb.heap.size vb w') (by kernel_rfl) ?_ (fun hHeld=>?_)
        ·exact(Below.refl _ _).drew
        generalize World.drew vb=wd at hHeld ⊢;refine qz 0 hHeld ?_;refine qz 1 hHeld ?_;refine qz 2 hHeld ?_;refine qz 3 hHeld ?_;refine qz 4 hHeld ?_;refine qz 5 hHeld ?_;refine qz 6 hHeld ?_;refine qz 8 hHeld ?_;refine qz 9 hHeld ?_;refine qz 10 hHeld ?_ (hy:=by intro w' hSw;have up:=jA up hSw;have x17:=jA x17 hSw;have y0:=jA y0 hSw;(try clear hHeld);go_simp;try with_reducible rfl);refine qz 11 hHeld ?_ (hy:=by intro w' hSw;have up:=jA up hSw;have x17:=jA x17 hSw;have y0:=jA y0 hSw;(try clear hHeld);go_simp;try with_reducible rfl);refine jr 7 fun K hK=>?_;(try clear hb);go_simp;(refine(TH.out _ hHeld).mono ?_;rintro e w1 ⟨rfl,hb⟩);go_wp2_with fail;refine hK.out _ _ ?_ (fun hHeld=>?_);(·exact hHeld.trans (hb.mono hHeld.size));clear hK K;(try simp only[jz]);refine qz 12 hHeld ?_;refine qz 13 hHeld ?_;refine qz 14 hHeld ?_;refine qz 15 hHeld ?_;refine qz 16 hHeld ?_;refine qz 19 hHeld ?_;refine qz 20 hHeld ?_ (hy:=by intro w' hSw;have up:=jA up hSw;have x17:=jA x17 hSw;have y0:=jA y0 hSw;(try clear hHeld);go_simp;try with_reducible rfl);refine qz 21 hHeld ?_;refine qz 22 hHeld ?_ (hy:=by intro w' hSw;have up:=jA up hSw;have x17:=jA x17 hSw;have y0:=jA y0 hSw;(try clear hHeld);go_simp;try with_reducible rfl);refine qz 23 hHeld ?_ (hy:=by intro w' hSw;have up:=jA up hSw;have x17:=jA x17 hSw;have y0:=jA y0 hSw;(try clear hHeld);go_simp;try with_reducible rfl);refine jr 17 fun K hK=>?_;(try clear hb);go_simp;refine(RT.out _ hHeld).mono ?_;rintro e wt ⟨s9,c9,rfl,hb⟩;go_wp2_with fail;refine hK.out _ _ ?_ (fun hHeld=>?_);(·exact jC hHeld hb);clear hK K;(try simp only[jz]);refine qz 18 hHeld ?_;refine jr 24 fun K hK=>?_;(try clear hb);go_simp;(refine(LN.out _ hHeld).mono ?_;rintro e w1 ⟨rfl,hb⟩);go_wp2_with fail;refine hK.out _ _ ?_ (fun hHeld=>?_);(·exact hHeld.trans (hb.mono hHeld.size));clear hK K;(try simp only[jz]);refine qz 25 hHeld ?_;refine qz 26 hHeld ?_;refine wpAnyH_done (by kernel_rfl) ?_ _;go_wp2_with fail;go_meet;exact⟨rfl,jh hHeld⟩
       case rest=>
        obtain⟨vf,hvf,HH⟩:∃vf:World,vf=_∧Hid (Below vb.heap.size vb vf):=⟨_,rfl,hcut.2⟩
        obtain⟨rfl,-⟩:=hcut;rw[←hvf];have BVF:=jh (jC BVB.out HH.out);clear hvf HH BVB up x17 y0 TH RT LN n1 n2 n3;go_wp2_with fail;exact⟨⟨q+1,by have:=QL.out;omega,rfl,BVF⟩,by have:=QL.out;simp only[intOf];omega⟩
    ·as_aux_lemma=>
     obtain rfl:q=N:=by omega
     have BE:=jh (RI9.out.srv.below BV.out).bel;clear BV hq hqn;go_wp2_with fail;go_ret;exact⟨rfl,BE.out⟩
 ·as_aux_lemma=>
  intro K' hJ;have EXT:Hid (∀(a':Act) (w':World),a'=F (slotsOf a')→Here w sb fb ls BB wb N mm w'→K' a' w'):=jh (fun a' w' h1 h2=>hJ a' w' h1 (jh h2));clear hJ;go_wp2_with fail;refine wp_loop_at F (fun u wr=>∃i:Nat,i≤40∧u 10=.int .i64 i∧Hid (Here w sb fb ls BB wb N mm wr)) (fun u=>41 - (intOf (u 10)).toNat) (by apply FIX.out<;>kernel_rfl) ⟨0,by omega,rfl,HR⟩ ?_;intro u wr hrel;clear HR;obtain⟨i,hi,hi10,HC⟩:=hrel;rw[FE.out u] at hi10 ⊢;replace hi10:u 10=.int .i64 i:=hi10;rw[hi10];clear hi10;have NXT:Hid (∀(a':Act) (w':World),i<40→a'=F (slotsOf a')→slotsOf a' 10=.int .i64 ((i:Int)+1)→Here w sb fb ls BB wb N mm w'→Nx F (fun u wr=>∃i:Nat,i≤40∧u 10=.int .i64 i∧Hid (Here w sb fb ls BB wb N mm wr)) (fun u=>41 - (intOf (u 10)).toNat) (41 - (intOf (Value.int .i64 i)).toNat) a' w'):=jh (by
   intro a' w' hi2 h0 h1 h2;refine⟨h0,⟨i+1,by omega,by rw[h1];push_cast;rfl,jh h2⟩,?_⟩;rw[h1];simp[intOf];omega)
  by_cases hil:i<xs.length
  ·have j1:decide ((i:Int)<(xs.length:Int))=true:=by simp;omega
   by_cases hi40:i<40
   ·have j2:decide ((i:Int)<40)=true:=by simp;omega
    have I40:=jh hi40;obtain⟨x,hx⟩:∃x,xs[i]? =some x:=⟨_,List.getElem?_eq_getElem hil⟩
    have ii0:(0:Int)≤(i:Int):=by omega
    have ii1:(i:Int)<(xs.length:Int):=by omega
    have MZ:=jh (HZ.out x (List.mem_of_getElem? hx));obtain⟨rho,A,sg,L,kl,al,ri⟩:=HC.out;have RI:=jh ri;obtain⟨gs,os,hs0,hrg,hok,hms⟩:=stps_at HV.out hx;subst hs0;have RG:=jh (range_below hrg ri.srv.bel);have MS:=jh hms;have SO:=jh hok;clear hx hrg hok hms hil hi40 hi ri HC;go_wp2_with ((with_reducible refine jM (X:=.load 48 (.tmp 95)) ?_ ?_);(·rfl));unfold Halt;refine ldm_at (by rfl) 48 (.tmp 95) rfl gs (os+i*24) rfl x.C.toList _ RG.out Tryz.underlying48 rfl sz_stpS ?_;go_wp2_with ((with_reducible refine jM (X:=.store 48 (.tmp 11) (.tmp 96)) ?_ ?_);(·rfl));unfold Halt;refine st_fresh rfl 48 (.tmp 11) (.tmp 96) rfl rfl _ x.C rfl sz_stpS rfl (stp_oneS x) ?_;obtain⟨w4,hw4,q4,hb4,-⟩:=box1 wr x.C 48;rw[←hw4];obtain⟨tb,htb⟩:∃tb,tb=wr.heap.size:=⟨_,rfl⟩
    rw[←htb] at q4 ⊢;have NT:Hid (rho tb=.no∧sg tb=.no):=jh ⟨RI.out.srv.new (Nat.le_of_eq htb.symm),by
     by_cases e:sg tb=.no
     ·exact e
     ·have:=(RI.out.lw.dom tb e).2.1;omega⟩
    have Q4:=jh q4;have RM:Hid (w4.rangeAt tb 4 x.x.m.C.toList):=jh (by
     have:=stp_range (W:=w4) (g:=tb) (o:=0) (s:=x) (fun j v hv=>by
      rw[jB q4 (0+j),Nat.zero_add];simpa using hv)
     simpa using this)
    have RI4:=jh (RI.out.below hb4);have BG:=jh (l_big14 x.x w4 (MS.out.below RI4.out.srv.bel));clear hw4 q4 hb4 htb RG RI;simp only[Act.put];go_wp2_with ((with_reducible refine jM (X:=.load 46 (.tmp 97)) ?_ ?_);(·rfl));unfold Halt;refine ldm_at (by rfl) 46 (.tmp 97) rfl tb 4 rfl x.x.m.C.toList _ RM.out Tryz.underlying46 rfl sz_msgS ?_;go_wp2_with fail;refine BG.out.mono ?_;rintro e w5 ⟨rfl,hb5⟩;have RI5:=jh (RI4.out.below hb5);have RM5:=jh (range_below RM.out hb5);have Q5:=jh ((hb5.block _ (jE Q4.out)).trans Q4.out);clear hb5 BG RI4 RM Q4;have iw:IntKind.i64.wrap ((i:Int)+1)=(i:Int)+1:=IntWalk.i64_in _ (by have:=I40.out;omega);rcases hbg:bigM x.x with _|_
    ·have GA:=jh (bigM_no hbg MZ.out);have MS5:Hid (On (fun k=>rho k=.no) w5 (fun W=>MsAt W x.x)):=jh (RI5.out.srv.ms MS.out);clear hbg;go_upto_region 14 with (fail)
     obtain⟨is,his⟩:∃is:Bool,decide (0≤x.n∧x.n<(N:Int))=is:=⟨_,rfl⟩
     have e0:w5.cell? ⟨tb,0,none⟩=some (.int .i64 x.k):=jB Q5.out 0;have e1:w5.cell? ⟨tb,1,none⟩=some (.int .i64 x.n):=jB Q5.out 1;have IS:=jh his;go_cut [12] from 100 to 108 (fun s12 wx=>s12=.bool is∧Hid (w5=wx))
     case first=>
      by_cases h1:0≤x.n
      ·have d1:decide (x.n≥0)=true:=by simp;omega
       have d1':decide (0≤x.n)=true:=by simp;omega
       have d2:decide (x.n<(N:Int))=is:=by rw[←his];simp[h1]
       clear his;go_wp2_with fail;go_meet;exact⟨rfl,jh rfl⟩
      ·have d1:decide (x.n≥0)=false:=by simp;omega
       have d1':decide (0≤x.n)=false:=by simp;omega
       have d2:is=false:=by rw[←his];simp;omega
       subst d2;clear his;go_wp2_with fail;go_meet;exact⟨rfl,jh rfl⟩
     case rest=>
      obtain⟨rfl,hq⟩:=hcut;have hq:=hq.out;subst hq;clear his;by_cases K0:x.k=0
      ·as_aux_lemma=>
       rw[K0] at e0;clear RM5 MS5 GA MS MZ SO;rcases is with _|_
       ·have hn:=of_decide_eq_false IS.out;have JN:=jh (ls_Join_no RI5.out.srv (n:=x.n) (by rw[RI5.out.ok.len];exact hn));clear hn;go_wp2_with fail;refine JN.out.mono ?_;rintro e w6 ⟨rfl,rfl⟩;clear JN e0 e1;go_wp2_with fail;exact NXT.out _ _ I40.out (by apply FIX.out<;>kernel_rfl) (by kernel_rfl) ⟨rho,A,sg,L,kl,al,RI5.out⟩
       ·have hn:=of_decide_eq_true IS.out;obtain⟨r,hr⟩:=Int.eq_ofNat_of_zero_le hn.1;rw[hr] at e1 hn;have RK:Hid (r<N):=jh (by omega);have r16:(r:Int)<16:=by omega
        have r0:(0:Int)≤(r:Int):=by omega
        have rN:(r:Int)<(N:Int):=hn.2;have RV:Hid (r<A.V.length):=jh (by rw[RI5.out.ok.len];exact RK.out);clear hr hn IS;rcases ht:A.th r with _|_
        ·have JN:=jh (ls_Join RI5.out.srv RV.out ht);go_wp2_with fail;refine JN.out.mono ?_;rintro e w6 ⟨rfl,l6,st6⟩;have LU6:=jh l6;have LW6:=jh (RI5.out.lw.step st6);have T6:Hid (w6.heap[wb]? =some (.cells (wdC N A.th L) 91 (0,0))):=jh (by have:=LW6.out.top;rwa [RI5.out.wbe] at this);have WN:Hid (rho wb=.no∧BB≤wb∧wb<w6.heap.size):=jh (by
          have h1:=LW6.out.rwb;rw[RI5.out.wbe] at h1;obtain⟨h2,h3,h4⟩:=LW6.out.dom wb (by rw[h1];decide);exact⟨h2,h4,h3⟩)
         have TB6:Hid (BB≤w6.heap.size):=jh (Nat.le_trans RI5.out.bb2 st6.kept.size);have TN:Hid (tb≠wb):=jh (fun e=>by have h1:=RI5.out.lw.rwb;rw[RI5.out.wbe,←e,NT.out.2] at h1;cases h1);replace e1:=st6.cell e1 NT.out.1;have up:=top_up T6.out (r:=r) (by have:=RK.out;omega);rw[ht] at up;have fz:=jN T6.out (1+r);clear JN l6 st6 e0 Q5;go_upto_region 21 with (fail)
         obtain⟨w7,hw7⟩:∃w7,w7=w6.setCell ⟨wb,1+r,none⟩ (.bool true):=⟨_,rfl⟩
         rw[←hw7];have k67:Kept (fun k=>k=wb) w6 w7:=by rw[hw7];exact Kept.setCell _ _ rfl
         have LU7:Hid (LSv w w7 rho sb fb ls (A.join r)):=jh (LU6.out.out k67 (fun k e=>by rw[e];exact WN.out.1) (fun k e=>by rw[e];exact Nat.le_trans RI5.out.bb1 WN.out.2.1));have LW7:Hid (LwM w7 rho sg BB N mm A.R A.bl (setF A.th r true) L kl al):=jh (by rw[hw7,←RI5.out.wbe];exact LW6.out.up (by have:=RK.out;omega) true);replace e1:=k67.cell e1 TN.out;have S7:Hid (BB≤w7.heap.size):=jh (Nat.le_trans TB6.out k67.size);clear hw7 k67 LU6 LW6 T6 up fz TB6;have T7:Hid (w7.heap[wb]? =some (.cells (wdC N (setF A.th r true) L) 91 (0,0))):=jh (by have:=LW7.out.top;rwa [RI5.out.wbe] at this);have x19:w7.cell? ⟨wb,19,none⟩=some (.slice (some ⟨L.tg,0,none⟩) N L.tc):=jB T7.out 19;obtain⟨w8,hw8⟩:∃w8,w8=w7.alloc (.map #[] 0):=⟨_,rfl⟩
         have b78:Below w7.heap.size w7 w8:=by rw[hw8];exact(Below.refl _ _).alloc (Nat.le_refl _) _
         have m8:MapT pfV beV KOk w8 w7.heap.size ([]:List (Pf×BE)):=by rw[hw8];exact MapT.made w7
         have LW8:=jh (LW7.out.below b78);obtain⟨b8,l8,-,-,⟨y0,y1⟩,-⟩:=LW8.out.told_at RK.out;obtain⟨sg9,lw9⟩:=LW7.out.toldNew RK.out b78 m8 (Nat.le_refl _) (LU7.out.new (Nat.le_refl _)) S7.out;have TGN:Hid (rho L.tg=.no∧BB≤L.tg∧L.tg≠tb):=jh (by
          obtain⟨D,h1,h2⟩:=LW7.out.told;have h3:=h2 L.tg (.inl (List.mem_cons_self ..));obtain⟨h4,-,h5⟩:=LW7.out.dom L.tg (by rw[h3];decide);exact⟨h4,h5,fun e=>by rw[e,NT.out.2] at h3;cases h3⟩)
         have e18:=jA e1 b78;have LW9:=jh lw9;have LU8:=jh (LU7.out.below b78);clear b78 m8 lw9 LW8 LU7;subst hw8;go_upto_region 22 with (fail)
         obtain⟨w9,hw9⟩:∃w9,w9=(w7.alloc (.map #[] 0)).setCell ⟨L.tg,r,none⟩ (.map (some w7.heap.size)):=⟨_,rfl⟩
         rw[←hw9] at LW9 ⊢;have k89:Kept (fun k=>k=L.tg) (w7.alloc (.map #[] 0)) w9:=by rw[hw9];exact Kept.setCell _ _ rfl
         have LU9:Hid (LSv w w9 rho sb fb ls (A.join r)):=jh (LU8.out.out k89 (fun k e=>by rw[e];exact TGN.out.1) (fun k e=>by rw[e];exact Nat.le_trans RI5.out.bb1 TGN.out.2.1));have e19:=k89.cell e18 (fun e=>TGN.out.2.2 e.symm);have S9:Hid (BB≤w9.heap.size):=jh (Nat.le_trans S7.out (Nat.le_trans (by simp) k89.size));clear hw9 k89 LU8 LW7 T7 x19 y0 y1 e1 e18 S7 TGN;obtain⟨L9,hL9⟩:∃L9:Lw,{L with tbs:=L.tbs.set r w7.heap.size}=L9:=⟨_,rfl⟩
         rw[hL9] at LW9;have WB9:Hid (L9.wb=wb):=jh (by rw[←hL9];exact RI5.out.wbe);clear hL9;have T9:Hid (w9.heap[wb]? =some (.cells (wdC N (setF A.th r true) L9) 91 (0,0))):=jh (by have:=LW9.out.top;rwa [WB9.out] at this);have x20:w9.cell? ⟨wb,20,none⟩=some (.slice (some ⟨L9.ag,0,none⟩) N L9.ac):=jB T9.out 20;obtain⟨w10,hw10⟩:∃w10,w10=w9.alloc (.map #[] 0):=⟨_,rfl⟩
         have b90:Below w9.heap.size w9 w10:=by rw[hw10];exact(Below.refl _ _).alloc (Nat.le_refl _) _
         have m10:MapT pfV marV KOk w10 w9.heap.size ([]:List (Pf×Bool)):=by rw[hw10];exact MapT.made w9
         have LW10:=jh (LW9.out.below b90);obtain⟨b10,l10,-,-,⟨y0,y1⟩,-⟩:=LW10.out.again_at RK.out;obtain⟨sg11,lw11⟩:=LW9.out.againNew RK.out b90 m10 (Nat.le_refl _) (LU9.out.new (Nat.le_refl _)) S9.out;have AGN:Hid (rho L9.ag=.no∧BB≤L9.ag):=jh (by
          have h3:=LW9.out.rag L9.ag (List.mem_cons_self ..);obtain⟨h4,-,h5⟩:=LW9.out.dom L9.ag (by rw[h3];decide);exact⟨h4,h5⟩)
         have e110:=jA e19 b90;have LW11:=jh lw11;have LU10:=jh (LU9.out.below b90);have FIN:Hid (Here w sb fb ls BB wb N mm (w10.setCell ⟨L9.ag,r,none⟩ (.map (some w9.heap.size)))):=jh (by
          have k:=Kept.setCell (F:=fun k=>k=L9.ag) (w:=w10) ⟨L9.ag,r,none⟩ (.map (some w9.heap.size)) rfl;refine⟨rho,A.join r,sg11,_,_,_,⟨LU10.out.out k (fun k e=>by rw[e];exact AGN.out.1) (fun k e=>by rw[e];exact Nat.le_trans RI5.out.bb1 AGN.out.2),LW11.out,RI5.out.ok.join r,RI5.out.mst,?_,?_,WB9.out,RI5.out.bb1,Nat.le_trans S9.out (Nat.le_trans b90.size k.size)⟩⟩
          ·exact kn_set (P:=fun i l=>KnOk (A.join r) i l) (KnOk.join_self A r) fun i l hi hl=>(RI5.out.kn i l hl).join hi
          ·intro i l hl;by_cases e:i=r
           ·subst e;have:l=[]:=by
             rw[List.getElem?_set,if_pos rfl] at hl;split at hl
             ·injection hl with hl;exact hl.symm
             ·cases hl
            subst this;exact AgOk.nil _ _
           ·rw[List.getElem?_set,if_neg (fun e2=>e e2.symm)] at hl;exact(RI5.out.agn i l hl).join e)
         clear b90 m10 lw11 LW10 LU9 LW9 LW11 LU10 AGN RI5;subst hw10;go_wp2_with fail;exact NXT.out _ _ I40.out (by apply FIX.out<;>kernel_rfl) (by kernel_rfl) FIN.out
        ·have JN:=jh (ls_Join_have RI5.out.srv RV.out ht);have up:=top_up RI5.out.top (r:=r) (by have:=RK.out;omega);rw[ht] at up;clear ht;go_wp2_with fail;refine JN.out.mono ?_;rintro e w6 ⟨rfl,rfl⟩;clear JN e0;go_wp2_with fail;exact NXT.out _ _ I40.out (by apply FIX.out<;>kernel_rfl) (by kernel_rfl) ⟨rho,A,sg,L,kl,al,RI5.out⟩
      ·by_cases K1:x.k=1
       ·as_aux_lemma=>
        rw[K1] at e0;clear RM5 MS5 GA MS MZ SO;rcases is with _|_
        ·have hn:=of_decide_eq_false IS.out;have JN:=jh (ls_Leave_no RI5.out.srv (n:=x.n) (by rw[RI5.out.ok.len];exact hn));clear hn;go_wp2_with fail;refine JN.out.mono ?_;rintro e w6 ⟨rfl,rfl⟩;clear JN e0 e1;go_wp2_with fail;exact NXT.out _ _ I40.out (by apply FIX.out<;>kernel_rfl) (by kernel_rfl) ⟨rho,A,sg,L,kl,al,RI5.out⟩
        ·have hn:=of_decide_eq_true IS.out;obtain⟨r,hr⟩:=Int.eq_ofNat_of_zero_le hn.1;rw[hr] at e1 hn;have RK:Hid (r<N):=jh (by omega);have r16:(r:Int)<16:=by omega
         have r0:(0:Int)≤(r:Int):=by omega
         have rN:(r:Int)<(N:Int):=hn.2;have RV:Hid (r<A.V.length):=jh (by rw[RI5.out.ok.len];exact RK.out);clear hr hn IS;rcases ht:A.th r with _|_
         ·have JN:=jh (ls_Leave_off RI5.out.srv RV.out ht);have up:=top_up RI5.out.top (r:=r) (by have:=RK.out;omega);rw[ht] at up;clear ht;go_wp2_with fail;refine JN.out.mono ?_;rintro e w6 ⟨rfl,rfl⟩;clear JN e0;go_wp2_with fail;exact NXT.out _ _ I40.out (by apply FIX.out<;>kernel_rfl) (by kernel_rfl) ⟨rho,A,sg,L,kl,al,RI5.out⟩
         ·have JN:=jh (ls_Leave RI5.out.srv RV.out ht);go_wp2_with fail;refine JN.out.mono ?_;rintro e w6 ⟨rho2,s6,c6,Lp,rfl,lp1,lp2,l6,st6,-⟩;have LU6:=jh l6;have LW6:=jh (RI5.out.lw.step st6);have LP1:=jh lp1;have LP2:=jh lp2;have T6:Hid (w6.heap[wb]? =some (.cells (wdC N A.th L) 91 (0,0))):=jh (by have:=LW6.out.top;rwa [RI5.out.wbe] at this);have WN:Hid (rho2 wb=.no∧BB≤wb):=jh (by
           have h1:=LW6.out.rwb;rw[RI5.out.wbe] at h1;obtain⟨h2,-,h4⟩:=LW6.out.dom wb (by rw[h1];decide);exact⟨h2,h4⟩)
          have TN:Hid (tb≠wb):=jh (fun e=>by have h1:=RI5.out.lw.rwb;rw[RI5.out.wbe,←e,NT.out.2] at h1;cases h1);have S6:Hid (BB≤w6.heap.size):=jh (Nat.le_trans RI5.out.bb2 st6.kept.size);replace e1:=st6.cell e1 NT.out.1;have up:=top_up T6.out (r:=r) (by have:=RK.out;omega);rw[ht] at up;have fz:=jN T6.out (1+r);clear JN l6 st6 e0 Q5 lp1 lp2 ht;go_upto_region 31 with (fail)
          obtain⟨w7,hw7⟩:∃w7,w7=w6.setCell ⟨wb,1+r,none⟩ (.bool false):=⟨_,rfl⟩
          rw[←hw7];have k67:Kept (fun k=>k=wb) w6 w7:=by rw[hw7];exact Kept.setCell _ _ rfl
          have LU7:Hid (LSv w w7 rho2 sb fb ls (A.leave r)):=jh (LU6.out.out k67 (fun k e=>by rw[e];exact WN.out.1) (fun k e=>by rw[e];exact Nat.le_trans RI5.out.bb1 WN.out.2));have LW7:Hid (LwM w7 rho2 sg BB N mm A.R A.bl (setF A.th r false) L kl al):=jh (by rw[hw7,←RI5.out.wbe];exact LW6.out.up (by have:=RK.out;omega) false);replace e1:=k67.cell e1 TN.out;have S7:Hid (BB≤w7.heap.size):=jh (Nat.le_trans S6.out k67.size);clear hw7 k67 LU6 LW6 T6 up fz S6;have T7:Hid (w7.heap[wb]? =some (.cells (wdC N (setF A.th r false) L) 91 (0,0))):=jh (by have:=LW7.out.top;rwa [RI5.out.wbe] at this);have x17:w7.cell? ⟨wb,17,none⟩=some (.slice (some ⟨L.rg,0,none⟩) N L.rc):=jB T7.out 17;obtain⟨rb,hrb,hcell,hrib⟩:=LW7.out.ribs RK.out;have y0:w7.cell? ⟨L.rg,r,none⟩=some (.pointer (some ⟨rb,0,none⟩)):=hcell;have HRB:=jh hrb;have CL:=jh (ad_Clear w7 hrib (fun k hk=>(LW7.out.dom k (by rw[hk];intro e;cases e)).2.1));clear hrb hcell hrib;go_wp2_with fail;refine CL.out.mono ?_;rintro e w8 ⟨v8,L8,F8,rfl,o8,p8,m8,r8,f8,n8,k8⟩;obtain⟨s8,c8,rfl,-⟩:=jV o8.1;obtain rfl:L8=Lp:=srt_ext p8 LP1.out fun p=>by rw[m8 p,LP2.out p]
          have nq:((L8.length:Int) !=(L8.length:Int))=false:=by simp
          obtain⟨sg9,lw9,-,-⟩:=LW7.out.setRib HRB.out k8 r8 f8 (fun k hk=>LU7.out.new hk) S7.out;have FIN:Hid (Here w sb fb ls BB wb N mm w8):=jh (by
           refine⟨rho2,A.leave r,sg9,L,kl,al,⟨LU7.out.out k8 (fun k hk=>(LW7.out.dom k (by rw[hk];intro e;cases e)).1) (fun k hk=>Nat.le_trans RI5.out.bb1 (LW7.out.dom k (by rw[hk];intro e;cases e)).2.2),?_,RI5.out.ok.leave RK.out,RI5.out.mst,fun i l hl=>(RI5.out.kn i l hl).leave r,fun i l hl=>(RI5.out.agn i l hl).leave r,RI5.out.wbe,RI5.out.bb1,Nat.le_trans S7.out k8.size⟩⟩;rw[RI5.out.ok.leaveR RK.out];exact lw9)
          clear o8 p8 m8 r8 f8 n8 k8 lw9 CL LW7 LU7 T7 x17 y0 e1 RI5;go_wp2_with fail;exact NXT.out _ _ I40.out (by apply FIX.out<;>kernel_rfl) (by kernel_rfl) FIN.out
       ·by_cases K2:x.k=2
        ·as_aux_lemma=>
         rw[K2] at e0;rcases is with _|_
         ·have hn:=of_decide_eq_false IS.out;have JN:=jh (ls_Update_no RI5.out.srv (n:=x.n) (by rw[RI5.out.ok.len];exact hn) x.x.m);clear hn;go_wp2_with ((with_reducible refine jM (X:=.load 46 (.tmp 183)) ?_ ?_);(·rfl));unfold Halt;refine ldm_at (by rfl) 46 (.tmp 183) rfl tb 4 rfl x.x.m.C.toList _ RM5.out Tryz.underlying46 rfl sz_msgS ?_;go_wp2_with fail;refine JN.out.mono ?_;rintro e w6 ⟨rfl,hb6⟩;have RI6:=jh (RI5.out.below hb6);clear JN e0 e1 hb6;go_wp2_with fail;exact NXT.out _ _ I40.out (by apply FIX.out<;>kernel_rfl) (by kernel_rfl) ⟨rho,A,sg,L,kl,al,RI6.out⟩
         ·have hn:=of_decide_eq_true IS.out;obtain⟨r,hr⟩:=Int.eq_ofNat_of_zero_le hn.1;rw[hr] at e1 hn;have RK:Hid (r<N):=jh (by omega);have r16:(r:Int)<16:=by omega
          have r0:(0:Int)≤(r:Int):=by omega
          have rN:(r:Int)<(N:Int):=hn.2;have RV:Hid (r<A.V.length):=jh (by rw[RI5.out.ok.len];exact RK.out);clear hr hn IS;rcases ht:A.th r with _|_
          ·have JN:=jh (ls_Update_off RI5.out.srv RV.out ht x.x.m);go_wp2_with ((with_reducible refine jM (X:=.load 46 (.tmp 183)) ?_ ?_);(·rfl));unfold Halt;refine ldm_at (by rfl) 46 (.tmp 183) rfl tb 4 rfl x.x.m.C.toList _ RM5.out Tryz.underlying46 rfl sz_msgS ?_;go_wp2_with fail;refine JN.out.mono ?_;rintro e w6 ⟨rfl,hb6⟩;have RI6:=jh (RI5.out.below hb6);have up:=top_up RI6.out.top (r:=r) (by have:=RK.out;omega);rw[ht] at up;replace e1:=jA e1 hb6;clear JN e0 hb6 ht;go_wp2_with fail;exact NXT.out _ _ I40.out (by apply FIX.out<;>kernel_rfl) (by kernel_rfl) ⟨rho,A,sg,L,kl,al,RI6.out⟩
          ·have JN:=jh (ls_UpdateO RI5.out.srv RV.out ht x.x MS5.out GA.out.1 GA.out.2);have HT:=jh ht;obtain⟨q,hq⟩:∃q,A.updR r x.x.m.kind x.x.gone x.x.nets x.x.a=q:=⟨_,rfl⟩
           rw[hq] at JN;have HQ:=jh hq;clear hq;go_wp2_with ((with_reducible refine jM (X:=.load 46 (.tmp 183)) ?_ ?_);(·rfl));unfold Halt;refine ldm_at (by rfl) 46 (.tmp 183) rfl tb 4 rfl x.x.m.C.toList _ RM5.out Tryz.underlying46 rfl sz_msgS ?_;go_wp2_with fail;refine JN.out.mono ?_;rintro e w6 ⟨rho2,s6,c6,rfl,l6,st6,ps6⟩;have LU6:=jh l6;have LW6:=jh (RI5.out.lw.step st6);have PS6:=jh ps6;have T6:Hid (w6.heap[wb]? =some (.cells (wdC N A.th L) 91 (0,0))):=jh (by have:=LW6.out.top;rwa [RI5.out.wbe] at this);have S6:Hid (BB≤w6.heap.size):=jh (Nat.le_trans RI5.out.bb2 st6.kept.size);have NC:Hid (¬sg tb=.rib r∧¬sg wb=.rib r∧¬sg L.rg=.rib r):=jh ⟨by rw[NT.out.2];(intro e;cases e),by
            have h1:=LW6.out.rwb;rw[RI5.out.wbe] at h1;rw[h1];(intro e;cases e),by rw[LW6.out.rrg];(intro e;cases e)⟩
           have MS6:Hid (∀W,Kept (fun k=>sg k=.rib r) w6.drew W→MsAt W x.x):=jh (fun W hk=>by
            refine msat_old MS.out fun k hl=>?_;have h0:=LU6.out.bel;have h1:k<w6.heap.size:=Nat.lt_of_lt_of_le hl h0.size;refine(hk.block k h1 fun e=>?_).trans (h0.block k hl);have:=(LW6.out.dom k (by rw[e];intro e;cases e)).2.2;have:=RI5.out.bb1;omega)
           have up:=top_up T6.out (r:=r) (by have:=RK.out;omega);rw[ht] at up;replace e1:=st6.cell e1 NT.out.1;have RM6:Hid (w6.rangeAt tb 4 x.x.m.C.toList):=jh (fun j v hv=>st6.cell (RM5.out j v hv) NT.out.1);have RB6:Hid (∀k,k<w6.heap.size→w5.heap.size≤k→sg k=.no):=jh (fun k _ hk=>by
            by_cases e:sg k=.no
            ·exact e
            ·have:=(RI5.out.lw.dom k e).2.1;omega)
           clear JN l6 st6 ps6 e0 ht RM5 Q5;go_upto_region 40 with (fail)
           clear up;have x17:w6.cell? ⟨wb,17,none⟩=some (.slice (some ⟨L.rg,0,none⟩) N L.rc):=jB T6.out 17;obtain⟨rb,hrb,hcell,hrib⟩:=LW6.out.ribs RK.out;have y0:w6.cell? ⟨L.rg,r,none⟩=some (.pointer (some ⟨rb,0,none⟩)):=hcell;have HRB:=jh hrb;have UP:Hid (Calls Tryz.prog 42 #[.pointer (some ⟨rb,0,none⟩),x.x.m.V] w6.drew (UpdPost rb r 65000 mm (fun k=>sg k=.rib r) w6.drew q)):=jh (by
            have h0:=ad_Update x.x.m x.x.gone x.x.nets x.x.a w6.drew (hrib.below (Below.refl w6.heap.size w6).drew) (MS6.out _ (Kept.refl _ _)).gone (MS6.out _ (Kept.refl _ _)).nets (fun W hk=>(MS6.out W hk).a) GA.out.2 GA.out.1.sz;have h1:=HQ.out;unfold Ab.updR at h1;rw[RI5.out.ok.own,RI5.out.mst] at h1;rw[h1] at h0;exact h0)
           clear hrb hcell hrib;go_cut [19,20] from 189 to 200 (fun s19 s20 wx=>∃(s8:Option Addr) (c8:Nat),s19=.slice s8 q.2.1.length c8∧s20=.int .i64 q.1∧Hid (Here w sb fb ls BB wb N mm wx)∧Hid (PsAt wx (.slice s6 q.2.1.length c6) q.2.1)∧Hid (PsAt wx (.slice s8 q.2.1.length c8) q.2.1))
           case first=>
            refine wp_region_held_drew (S:=fun w'=>Kept (fun k=>sg k=.rib r) w6 w') (by kernel_rfl) ?_ (fun hHeld=>?_)
            ·exact(Kept.refl _ _).drew
            generalize World.drew w6=wd at UP MS6 hHeld ⊢;refine qz 0 hHeld ?_;refine qz 1 hHeld ?_ (hy:=by intro w' hSw;have x17:=hSw.cell x17 NC.out.2.1;have y0:=hSw.cell y0 NC.out.2.2;have e1:=hSw.cell e1 NC.out.1;(try clear hHeld);go_simp;try with_reducible rfl);refine qz 2 hHeld ?_;refine qz 3 hHeld ?_ (hy:=by intro w' hSw;have x17:=hSw.cell x17 NC.out.2.1;have y0:=hSw.cell y0 NC.out.2.2;have e1:=hSw.cell e1 NC.out.1;(try clear hHeld);go_simp;try with_reducible rfl);refine qz 4 hHeld ?_ (hy:=by intro w' hSw;have x17:=hSw.cell x17 NC.out.2.1;have y0:=hSw.cell y0 NC.out.2.2;have e1:=hSw.cell e1 NC.out.1;(try clear hHeld);go_simp;try with_reducible rfl);refine qz 5 hHeld ?_ (hy:=by intro w' hSw;have x17:=hSw.cell x17 NC.out.2.1;have y0:=hSw.cell y0 NC.out.2.2;have e1:=hSw.cell e1 NC.out.1;(try clear hHeld);go_simp;try with_reducible rfl);refine qz 6 hHeld ?_;refine qz 7 hHeld ?_ (hy:=by intro w' hSw;refine exec_ldm 46 (.tmp 196) ?_ tb 4 ?_ x.x.m.C.toList _ (fun q u hq=>hSw.cell (RM6.out q u hq) NC.out.1) Tryz.underlying46 rfl sz_msgS<;>rfl);refine jr 8 fun K hK=>?_;(try clear hb);go_simp;refine UP.out.mono ?_;rintro e wq ⟨v8,F8,rfl,o8,r8,f8,n8,k8⟩;have HK0:=hHeld;obtain⟨s8,c8,hv8,-⟩:=jV o8.1;subst hv8;go_wp2_with fail;refine hK.out _ _ ?_ (fun hHeld=>?_);(·exact hHeld.trans k8);clear hK K;(try simp only[jz]);refine qz 9 hHeld ?_;refine qz 10 hHeld ?_;refine qz 11 hHeld ?_;refine qz 12 hHeld ?_;refine qz 13 hHeld ?_;refine wpAnyH_done (by kernel_rfl) ?_ _;obtain⟨sg9,lw9,-,-⟩:=LW6.out.setRib HRB.out hHeld r8 (fun k hk=>(f8 k hk).imp_right fun h=>⟨Nat.le_trans HK0.size h.1,h.2⟩) (fun k hk=>LU6.out.new hk) S6.out;have FIN:Hid (Here w sb fb ls BB wb N mm wq):=jh (by
             have hs:=same_upd A r x.x.m.kind x.x.gone x.x.nets x.x.a;refine⟨rho2,A.upd r x.x.m.kind x.x.gone x.x.nets x.x.a,sg9,L,kl,al,⟨LU6.out.out hHeld (fun k hk=>(LW6.out.dom k (by rw[hk];intro e;cases e)).1) (fun k hk=>Nat.le_trans RI5.out.bb1 (LW6.out.dom k (by rw[hk];intro e;cases e)).2.2),?_,RI5.out.ok.upd RK.out HT.out _ _ _ _,hs.most.trans RI5.out.mst,fun i l hl=>(RI5.out.kn i l hl).upd r _ _ _ _,fun i l hl=>(RI5.out.agn i l hl).upd r _ _ _ _,RI5.out.wbe,RI5.out.bb1,Nat.le_trans S6.out hHeld.size⟩⟩;rw[RI5.out.ok.updRR RK.out,hs.bl,hs.th,HQ.out];exact lw9)
            have PQ:Hid (PsAt wq (.slice s6 q.2.1.length c6) q.2.1):=jh (PS6.out.kept hHeld fun k hl hF hg=>by have:=RB6.out k hl hF.2;rw[this] at hg;cases hg).self;have OQ:=jh o8.at;clear o8 r8 f8 n8 k8 HK0 hHeld lw9;go_wp2_with fail;go_meet;exact⟨s8,c8,rfl,rfl,FIN,PQ,OQ⟩
           case rest=>
            obtain⟨s8,c8,rfl,rfl,FIN,PQ,OQ⟩:=hcut;obtain⟨wq,hwq⟩:∃wq:World,wq=wc:=⟨_,rfl⟩
            rw[←hwq] at FIN PQ OQ ⊢;obtain⟨M,hM⟩:∃M,q.2.1.length=M:=⟨_,rfl⟩
            have HM:=jh hM;obtain⟨cd,hcd⟩:∃cd,q.1=cd:=⟨_,rfl⟩
            rw[hM] at PQ OQ ⊢;rw[hcd];have nq:((M:Int) !=(M:Int))=false:=by simp
            have nc:(cd !=cd)=false:=by simp
            have ML:Hid (M≤9223372036854775807):=jh (by rw[←HM.out];have:=ps_len PQ.out;unfold maxLen at this;exact this);clear hwq hM hcd UP MS6 x17 y0 e1 RI5 LU6 LW6 T6 RM6 RB6 PS6 HRB NC S6 HQ GA MS5;go_wp2_with fail;go_loopw [209] (fun t209 wr=>∃z:Nat,z≤M∧t209=.int .i64 z∧Hid (Below wq.heap.size wq wr)) (fun t209 _=>M - (intOf t209).toNat)
            case atStart=>exact⟨0,by omega,rfl,jh (Below.refl _ _)⟩
            case round=>
             obtain⟨z,hz,rfl,BZ⟩:=hrel;by_cases hzm:z<M
             ·obtain⟨p,hp⟩:∃p,q.2.1[z]? =some p:=⟨_,List.getElem?_eq_getElem (by rw[HM.out];exact hzm)⟩
              obtain⟨g2,o2,d0',d1',hs6,⟨hpc,-⟩,p0,p1⟩:=ps_pair (PQ.out.below BZ.out) hp;injection hpc with q1 q2;injection q2 with q2 _;subst q1;subst q2;subst hs6;obtain⟨g3,o3,d2',d3',hs8,⟨hpc,-⟩,p2,p3⟩:=ps_pair (OQ.out.below BZ.out) hp;injection hpc with q1 q2;injection q2 with q2 _;subst q1;subst q2;subst hs8;have z0:(0:Int)≤(z:Int):=by omega
              have z1:(z:Int)<(M:Int):=by omega
              have ZL:=jh hzm;have zw:IntKind.i64.wrap ((z:Int)+1)=((z+1:Nat):Int):=by have:=ML.out;rw[IntWalk.i64_in _ (by omega)];omega
              clear hp hz hzm nq;go_upto_region 47 with (fail)
              refine wp_region_held_drew (S:=fun w'=>Below wr.heap.size wr w') (by kernel_rfl) ?_ (fun hHeld=>?_)
              ·exact(Below.refl _ _).drew
              generalize World.drew wr=wd at hHeld ⊢;refine qz 0 hHeld ?_;refine qz 1 hHeld ?_;refine qz 2 hHeld ?_ (hy:=by intro w' hSw;have p0:=jA p0 hSw;have p1:=jA p1 hSw;have p2:=jA p2 hSw;have p3:=jA p3 hSw;(try clear hHeld);go_simp;try with_reducible rfl);refine qz 3 hHeld ?_ (hy:=by intro w' hSw;have p0:=jA p0 hSw;have p1:=jA p1 hSw;have p2:=jA p2 hSw;have p3:=jA p3 hSw;(try clear hHeld);go_simp;try with_reducible rfl);refine qz 4 hHeld ?_;refine qz 5 hHeld ?_;refine qz 6 hHeld ?_ (hy:=by intro w' hSw;have p0:=jA p0 hSw;have p1:=jA p1 hSw;have p2:=jA p2 hSw;have p3:=jA p3 hSw;(try clear hHeld);go_simp;try with_reducible rfl);refine qz 7 hHeld ?_ (hy:=by intro w' hSw;have p0:=jA p0 hSw;have p1:=jA p1 hSw;have p2:=jA p2 hSw;have p3:=jA p3 hSw;(try clear hHeld);go_simp;try with_reducible rfl);refine qz 8 hHeld ?_;refine wpAnyH_done (by kernel_rfl) ?_ _;have BZ2:=jh (jC BZ.out hHeld);clear BZ p0 p1 p2 p3 hHeld;go_wp2_with fail;exact⟨⟨z+1,by have:=ZL.out;omega,rfl,BZ2⟩,by have:=ZL.out;simp only[intOf];omega⟩
             ·obtain rfl:z=M:=by omega
              have FIN2:=jh (FIN.out.below BZ.out);clear BZ hz hzm nq;go_wp2_with fail;exact NXT.out _ _ I40.out (by apply FIX.out<;>kernel_rfl) (by kernel_rfl) FIN2.out
        ·by_cases K3:x.k=3
         ·as_aux_lemma=>
          rw[K3] at e0;have e2:w5.cell? ⟨tb,2,none⟩=some (.int .i64 x.to_):=jB Q5.out 2;have e3:w5.cell? ⟨tb,3,none⟩=some (.bool x.on):=jB Q5.out 3;clear RM5 MS5 GA MS MZ SO;rcases is with _|_
          ·have hn:=of_decide_eq_false IS.out;have JN:=jh (ls_Block_no RI5.out.srv (n:=x.n) (k:=x.to_) (by rw[RI5.out.ok.len];exact fun h=>hn h.1) x.on);clear hn;go_wp2_with fail;refine JN.out.mono ?_;rintro e w6 ⟨rfl,rfl⟩;clear JN e0 e1 e3;go_wp2_with fail;exact NXT.out _ _ I40.out (by apply FIX.out<;>kernel_rfl) (by kernel_rfl) ⟨rho,A,sg,L,kl,al,RI5.out⟩
          ·have hn:=of_decide_eq_true IS.out;obtain⟨r,hr⟩:=Int.eq_ofNat_of_zero_le hn.1;rw[hr] at e1 hn;have RK:Hid (r<N):=jh (by omega);have RV:Hid (r<A.V.length):=jh (by rw[RI5.out.ok.len];exact RK.out);clear hr hn IS;by_cases hto:0≤x.to_∧x.to_<(N:Int)
           ·obtain⟨q,hq⟩:=Int.eq_ofNat_of_zero_le hto.1;rw[hq] at e2 hto;have QK:Hid (q<N):=jh (by omega);have dq1:decide ((q:Int)<0)=false:=by simp
            have dq2:decide ((q:Int)≥(N:Int))=false:=by have:=QK.out;simp;omega
            have dq3:decide (N≤q)=false:=by have:=QK.out;simp;omega
            have JN:=jh (ls_Block RI5.out.srv (i:=r) (j:=q) RV.out (by rw[RI5.out.ok.len];exact QK.out) x.on);clear hq hto;go_wp2_with fail;refine JN.out.mono ?_;rintro e w6 ⟨rho2,rfl,l6,st6⟩;have LU6:=jh l6;have LW6:=jh (RI5.out.lw.step st6);have T6:Hid (w6.heap[wb]? =some (.cells (wdC N A.th L) 91 (0,0))):=jh (by have:=LW6.out.top;rwa [RI5.out.wbe] at this);have S6:Hid (BB≤w6.heap.size):=jh (Nat.le_trans RI5.out.bb2 st6.kept.size);have x18:w6.cell? ⟨wb,18,none⟩=some (.map (some L.kb)):=jB T6.out 18;replace e1:=st6.cell e1 NT.out.1;replace e2:=st6.cell e2 NT.out.1;replace e3:=st6.cell e3 NT.out.1;obtain⟨bls,hbk,hbl,hbg⟩:=LW6.out.blk;obtain⟨o1,hs1,hm1⟩:=hbk.store k2_enc Tryz.underlying88 ((r:Int),(q:Int)) ⟨by have:=RK.out;unfold I64r;simp only;omega,by have:=QK.out;unfold I64r;simp only;omega⟩ x.on (by have:=hbl.short hbk.apart;unfold maxLen;omega) w6 rfl;have k1:Kept (fun k=>k=L.kb) w6 (ChangeMaps.setBlock w6 L.kb o1):=Kept.setBlock o1 rfl;have FIN:Hid (Here w sb fb ls BB wb N mm (ChangeMaps.setBlock w6 L.kb o1)):=jh (by
             have hkb:=LW6.out.dom L.kb (by rw[LW6.out.rkb];decide);refine⟨rho2,A.block r q x.on,sg,L,kl,al,⟨LU6.out.out k1 (fun k e=>by rw[e];exact hkb.1) (fun k e=>by rw[e];exact Nat.le_trans RI5.out.bb1 hkb.2.2),?_,RI5.out.ok.block r q x.on,RI5.out.mst,fun i l hl=>(RI5.out.kn i l hl).block r q x.on,fun i l hl=>(RI5.out.agn i l hl).block r q x.on,RI5.out.wbe,RI5.out.bb1,Nat.le_trans S6.out k1.size⟩⟩;refine LW6.out.block k1 hm1 (hbl.put (by have:=RK.out;omega) (by have:=QK.out;omega) x.on) fun i j hi hj=>?_;rw[getL_put];show _=setWay A.bl (r*16+q) x.on (i*16+j);unfold setWay;have hr4:=RK.out;have hq4:=QK.out;by_cases e:i=r∧j=q
             ·obtain⟨rfl,rfl⟩:=e;rw[if_pos rfl,if_pos rfl];rfl
             ·rw[if_neg (by
               intro e2;injection e2 with e3 e4;exact e ⟨by omega,by omega⟩),if_neg (by
               intro e2;exact e ⟨by omega,by omega⟩)]
              exact hbg i j hi hj)
            clear hbk hbl hbg hm1 k1 l6 st6 JN LU6 LW6 T6 RI5;go_wp2_with fail;exact NXT.out _ _ I40.out (by apply FIX.out<;>kernel_rfl) (by kernel_rfl) FIN.out
           ·have JN:=jh (ls_Block_no RI5.out.srv (n:=(r:Int)) (k:=x.to_) (by rw[RI5.out.ok.len];exact fun h=>hto h.2) x.on);by_cases hz:x.to_<0
            ·have dq1:decide (x.to_<0)=true:=by simpa using hz
             clear hto hz;go_wp2_with fail;refine JN.out.mono ?_;rintro e w6 ⟨rfl,rfl⟩;clear JN e0 e1 e3;go_wp2_with fail;exact NXT.out _ _ I40.out (by apply FIX.out<;>kernel_rfl) (by kernel_rfl) ⟨rho,A,sg,L,kl,al,RI5.out⟩
            ·have dq1:decide (x.to_<0)=false:=by simpa using hz
             have dq2:decide (x.to_≥(N:Int))=true:=by simp;omega
             have dq3:decide ((N:Int)≤x.to_)=true:=by simp;omega
             clear hto hz;go_wp2_with fail;refine JN.out.mono ?_;rintro e w6 ⟨rfl,rfl⟩;clear JN e0 e1 e3;go_wp2_with fail;exact NXT.out _ _ I40.out (by apply FIX.out<;>kernel_rfl) (by kernel_rfl) ⟨rho,A,sg,L,kl,al,RI5.out⟩
         ·by_cases K4:x.k=4
          ·as_aux_lemma=>
           rw[K4] at e0;clear RM5 MS5 GA MS MZ SO;rcases is with _|_
           ·have hn:=of_decide_eq_false IS.out;have JN:=jh (ls_News_no RI5.out.srv (n:=x.n) (by rw[RI5.out.ok.len];exact hn));clear hn;go_wp2_with fail;refine JN.out.mono ?_;rintro e w6 ⟨rfl,rfl⟩;clear JN e0 e1;go_wp2_with fail;exact NXT.out _ _ I40.out (by apply FIX.out<;>kernel_rfl) (by kernel_rfl) ⟨rho,A,sg,L,kl,al,RI5.out⟩
           ·have hn:=of_decide_eq_true IS.out;obtain⟨r,hr⟩:=Int.eq_ofNat_of_zero_le hn.1;rw[hr] at e1 hn;have RK:Hid (r<N):=jh (by omega);have r16:(r:Int)<16:=by omega
            have r0:(0:Int)≤(r:Int):=by omega
            have rN:(r:Int)<(N:Int):=hn.2;have RV:Hid (r<A.V.length):=jh (by rw[RI5.out.ok.len];exact RK.out);have JN:=jh (ls_NewsO RI5.out.srv (i:=r) RV.out);clear hr hn IS;rcases ht:A.th r with _|_
            ·go_wp2_with fail;refine JN.out.mono ?_;rintro e w6 ⟨s7,c7,L7,rfl,-,-,m7,-,l6,st6⟩;obtain rfl:=new_none RI5.out.ok ht m7;have RI6:=jh (RI5.out.hush_off ht st6 l6);have up:=top_up RI6.out.top (r:=r) (by have:=RK.out;omega);have up2:w6.cell? ⟨wb,1+r,none⟩=some (.bool false):=by rw[←ht];exact up
             replace e1:=st6.cell e1 NT.out.1;clear JN e0 m7 l6 st6 ht up;go_wp2_with fail;exact NXT.out _ _ I40.out (by apply FIX.out<;>kernel_rfl) (by kernel_rfl) ⟨rho,A.hush r,sg,L,kl,al,RI6.out⟩
            ·go_wp2_with fail;refine JN.out.mono ?_;rintro e w6 ⟨s7,c7,L7,rfl,p7,q7,m7,r7,l6,st6⟩;have LU6:=jh l6;have LW6:=jh (RI5.out.lw.step st6);have PL6:=jh p7;have SL7:=jh q7;have ML7:=jh m7;have RL7:=jh r7;have HT:=jh ht;have S6:Hid (BB≤w6.heap.size∧w5.heap.size≤w6.heap.size):=jh ⟨Nat.le_trans RI5.out.bb2 st6.kept.size,st6.kept.size⟩;have GD:Hid (∀(i:Nat) (p:Pf) (a:At),i<N→getL (A.R i) p=some a→GoodA a):=jh (fun i p a _ hp=>RI5.out.srv.goodR hp);have T6:Hid (w6.heap[wb]? =some (.cells (wdC N A.th L) 91 (0,0))):=jh (by have:=LW6.out.top;rwa [RI5.out.wbe] at this);replace e1:=st6.cell e1 NT.out.1;have E1:=jh e1;have up:=top_up T6.out (r:=r) (by have:=RK.out;omega);rw[ht] at up;have NE:=jh (l_nets LW6.out (by omega));clear JN l6 st6 p7 q7 m7 r7 e0 Q5 ht;go_upto_region 64 with (fail)
             clear up;go_wp2_with ((with_reducible refine jM (X:=.load 91 (.tmp 9)) ?_ ?_);(·rfl));unfold Halt;refine ld_at (by rfl) 91 (.tmp 9) rfl wb rfl 91 (wdC N A.th L) (0,0) _ T6.out Tryz.underlying91 rfl sz_world ?_;go_wp2_with fail;refine NE.out.mono ?_;rintro e w7 ⟨sn,cn,ns,rfl,on,-,-,rn,ln,b7⟩;have ON:=jh on;have RN:=jh rn;have LN:=jh ln;have B7:=jh b7;obtain⟨bm,lm,hbm,hlm,⟨y0,-⟩,hmap,hkt,hval,hcol⟩:=LW6.out.told_at RK.out;have HBM:=jh (And.intro hbm hlm);have HKT:=jh hkt;have HVAL:=jh hval;have HMAP:=jh hmap;have x19:w7.cell? ⟨wb,19,none⟩=some (.slice (some ⟨L.tg,0,none⟩) N L.tc):=jA (jB T6.out 19) b7;replace y0:=jA y0 b7;replace e1:=jA e1 b7;obtain⟨w8,hr8,hR8,hB8,hz8⟩:=(hmap.below b7).range Tryz.underlying64;obtain⟨rb,hrb⟩:∃rb,rb=w7.heap.size:=⟨_,rfl⟩
             rw[←hrb] at hr8 hR8;have RR8:=jh hR8;have B8:=jh (jC b7 hB8);have ON8:=jh (on.below hB8);have FEW:=jh (rgt_few hmap.apart hkt.rgt);have NB8:Hid ((∀g,(Value.slice sn ns.length cn).ownBlock=some g→g≠rb)∧w6.heap.size≤rb):=jh ⟨fun g hg e=>by have:=own_lt on.1 g hg;omega,by rw[hrb];exact b7.size⟩;have XB:Hid (ns.length+lm.length≤4096+2^33):=jh (by have:=ln;have:=FEW.out;omega);clear on rn ln b7 NE hbm hlm hmap hkt hval hR8 hB8 hz8 hrb ON B7;go_wp2_with fail;clear hr8 x19 y0 e1;go_loopw [23] (fun t23 wr=>∃(left:List (Pf×BE)) (s:Option Addr) (c:Nat) (ys:List Pf),t23=.slice s ys.length c∧Hid (OwnPs wr w6.heap.size (.slice s ys.length c) ys)∧Hid (∀q∈ys,RgtP q)∧Hid (Below w6.heap.size w6 wr)∧Hid (RangeT pfV beV KOk wr bm rb lm left)∧Hid (∀g,(Value.slice s ys.length c).ownBlock=some g→g≠rb)∧Hid (ys.length+left.length≤4096+2^33)) (fun _ wr=>wr.rangeLeft bm rb)
             case atStart=>exact⟨lm,sn,cn,ns,rfl,ON8,RN,B8,RR8,jh NB8.out.1,XB⟩
             case round=>
              clear ON8 RN B8 RR8 XB;obtain⟨left,s,c,ys,rfl,OY,RY,BY,RT,NB,XL⟩:=hrel;rcases RT.out.next (P:=Tryz.prog) 0 with⟨rfl,hn⟩|⟨k,q,w9,hi,hq,hn,hR1,hk1,hz1,hen⟩
              ·have hn':∀ty,(Instr.next (.pointer (some ⟨rb,0,none⟩)) false ty).run Tryz.prog wr=.ok (.tuple #[.bool false]) wr:=fun _=>hn;clear hn RT NB XL NB8 FEW LN;go_upto_region 70 with (fail)
               obtain⟨d1,hd1⟩:∃d1,d1=wr.alloc (.map #[] 0):=⟨_,rfl⟩
               have b01:Below wr.heap.size wr d1:=by rw[hd1];exact(Below.refl _ _).alloc (Nat.le_refl _) _
               have m1:MapT pfV marV KOk d1 wr.heap.size ([]:List (Pf×Bool)):=by rw[hd1];exact MapT.made wr
               rw[←hd1];obtain⟨db,hdb⟩:∃db,db=wr.heap.size:=⟨_,rfl⟩
               rw[←hdb] at m1 ⊢;have DM1:Hid (DueM A r d1 db):=jh ⟨[],m1,fun x hx=>by cases hx⟩;have BD1:=jh (jC BY.out b01);have OD1:=jh (OY.out.below b01);have DB:Hid (w6.heap.size≤db):=jh (by rw[hdb];exact BY.out.size);have e1:=jA E1.out BD1.out;have x20:d1.cell? ⟨wb,20,none⟩=some (.slice (some ⟨L.ag,0,none⟩) N L.ac):=jA (jB T6.out 20) BD1.out;obtain⟨ba,la,hba,hla,⟨y0,-⟩,amap,art,-⟩:=LW6.out.again_at RK.out;have y0:=jA y0 BD1.out;have HBA:=jh hla;have ART:=jh art;obtain⟨d2,hr2,hR2,hB2,hz2⟩:=(amap.below BD1.out).range Tryz.underlying51;obtain⟨rc,hrc⟩:∃rc,rc=d1.heap.size:=⟨_,rfl⟩
               rw[←hrc] at hr2 hR2;have RR2:=jh hR2;have DM2:=jh (DM1.out.below hB2);have BD2:=jh (jC BD1.out hB2);have OD2:=jh (OD1.out.below hB2);have RC2:Hid (w6.heap.size≤rc∧rc≠db):=jh ⟨by rw[hrc];exact BD1.out.size,fun e=>by have:=m1.lt;omega⟩;have BAL:Hid (ba<w6.heap.size):=jh amap.lt;clear hd1 b01 m1 DM1 BD1 OD1 hba hla amap art hR2 hB2 hz2 hrc hdb OY BY;go_wp2_with fail;clear hr2 x20 y0 e1 hn';go_loopw [26] (fun t26 wz=>∃left:List (Pf×Bool),Hid (DueM A r wz db)∧Hid (Below w6.heap.size w6 wz)∧Hid (OwnPs wz w6.heap.size (.slice s ys.length c) ys)∧Hid (RangeT pfV marV KOk wz ba rc la left)) (fun _ wz=>wz.rangeLeft ba rc)
               case atStart=>exact⟨la,DM2,BD2,OD2,RR2⟩
               case round=>
                clear DM2 BD2 OD2 RR2;obtain⟨left,DM,BZ,OZ,RT⟩:=hrel;rcases RT.out.next (P:=Tryz.prog) 0 with⟨rfl,hn⟩|⟨k,q,w9,hi,hq,hn,hR1,hk1,hz1,hen⟩
                ·have hn':∀ty,(Instr.next (.pointer (some ⟨rc,0,none⟩)) false ty).run Tryz.prog wr=.ok (.tuple #[.bool false]) wr:=fun _=>hn;clear hn RT HBA ART RC2 BAL;have YL:ys.length≤9223372036854775807:=by have:=ps_len OZ.out.at;unfold maxLen at this;exact this
                 go_wp2_with fail;clear hn';go_loopw [316] (fun t316 wz=>∃y:Nat,y≤ys.length∧t316=.int .i64 y∧Hid (DueM A r wz db)∧Hid (Below w6.heap.size w6 wz)∧Hid (OwnPs wz w6.heap.size (.slice s ys.length c) ys)) (fun t316 _=>ys.length - (intOf t316).toNat)
                 case atStart=>exact⟨0,by omega,rfl,DM,BZ,OZ⟩
                 case round=>
                  clear DM BZ OZ;obtain⟨y,hy,rfl,DM,BZ,OZ⟩:=hrel;by_cases hyl:y<ys.length
                  ·as_aux_lemma=>
                   obtain⟨p,hp⟩:∃p,ys[y]? =some p:=⟨_,List.getElem?_eq_getElem hyl⟩
                   have RP:=jh (RY.out p (List.mem_of_getElem? hp));obtain⟨g2,o2,d0',d1',rfl,⟨hpc,-⟩,p0,p1⟩:=ps_pair OZ.out.at hp;injection hpc with q1 q2;injection q2 with q2 _;subst q1;subst q2;have y0:(0:Int)≤(y:Int):=by omega
                   have y1:(y:Int)<(ys.length:Int):=by omega
                   have YZ:=jh hyl;have zw:IntKind.i64.wrap ((y:Int)+1)=((y+1:Nat):Int):=by rw[IntWalk.i64_in _ (by omega)];omega
                   clear hp hy hyl;go_upto_region 77 with (fail)
                   obtain⟨v1,hv1,q0,q1,hb1⟩:=box2 wr (.int .u32 p.1) (.int .i64 p.2) 53;rw[←hv1];obtain⟨pb,hpb⟩:∃pb,pb=wr.heap.size:=⟨_,rfl⟩
                   rw[←hpb] at q0 q1 ⊢;have DM1:=jh (DM.out.below hb1);have OZ1:=jh (OZ.out.below hb1);have BZ1:=jh (jC BZ.out hb1);clear hv1 hb1 hpb DM OZ BZ p0 p1;have WB:=jh (l_wbest (LW6.out.below BZ1.out) (by omega) RK.out p RP.out.1 GD.out);rw[RI5.out.ok.best RK.out p] at WB;have e1:=jA E1.out BZ1.out;have Q0:=jh q0;have Q1:=jh q1;go_wp2_with ((with_reducible refine jM (X:=.load 91 (.tmp 9)) ?_ ?_);(·rfl));unfold Halt;refine ld_at (by rfl) 91 (.tmp 9) rfl wb rfl 91 (wdC N A.th L) (0,0) _ ((BZ1.out.block _ (jE T6.out)).trans T6.out) Tryz.underlying91 rfl sz_world ?_;go_wp2_with fail;refine WB.out.mono ?_;intro e v2 hbw;obtain⟨cb,pe,pp,u2,rfl,hcb,hcx,hcf,hb2⟩:=hbw.uni;have HCB:=jh hcb;have HCX:=jh hcx;have HCF:=jh hcf;obtain⟨bk,hbk⟩:∃bk,cb.isSome=bk:=⟨_,rfl⟩
                   have HBK:=jh hbk;rw[hbk];have DM2:=jh (DM1.out.below hb2);have OZ2:=jh (OZ1.out.below hb2);have BZ2:=jh (jC BZ1.out hb2);have Q02:=jh (jA Q0.out hb2);have Q12:=jh (jA Q1.out hb2);clear hcb hcx hcf hbk hbw hb2 WB DM1 OZ1 BZ1 e1 q0 q1 Q0 Q1;go_wp2_with ((with_reducible refine jM (X:=.store 61 (.tmp 29) (.tmp 326)) ?_ ?_);(·rfl));unfold Halt;refine st_fresh rfl 61 (.tmp 29) (.tmp 326) rfl rfl _ (rtC pe pp u2) rfl sz_rt rfl (rt_one _ _ _) ?_;obtain⟨v3,hv3,q3,hb3,-⟩:=box1 v2 (rtC pe pp u2) 61;rw[←hv3];obtain⟨qb,hqb⟩:∃qb,qb=v2.heap.size:=⟨_,rfl⟩
                   rw[←hqb] at q3 ⊢;simp only[Act.put];have DM3:=jh (DM2.out.below hb3);have OZ3:=jh (OZ2.out.below hb3);have BZ3:=jh (jC BZ2.out hb3);have HCF3:Hid (∀x,cb=some x→AvAt v3 x.a x.v):=jh (fun x hx=>(HCF.out x hx).self.below hb3);have q0:=jA Q02.out hb3;have q1:=jA Q12.out hb3;have Q3:=jh q3;clear hv3 hb3 hqb q3 DM2 OZ2 BZ2 Q02 Q12 HCF;obtain⟨ot,hot⟩:∃ot,getL lm p=ot:=⟨_,rfl⟩
                   obtain⟨te,tp,tv,htu,htx⟩:=told_uni ot;obtain⟨had,hhad⟩:∃had,ot.isSome=had:=⟨_,rfl⟩
                   have HOT:=jh hot;have HTX:=jh htx;have HAD:=jh hhad;have LK:Hid (∀w',Below v3.heap.size v3 w'→(Instr.lookup 64 (.map (some bm)) (pfV p) true).run Tryz.prog w'=.ok (.tuple #[.agg (rtC te tp tv),.bool had]) w'):=jh (fun w' hb=>by
                    have:=HMAP.out.look pf_enc Tryz.underlying64 p RP.out.key zero_rt w' ((jC BZ3.out hb).block _ HMAP.out.lt) true;rw[hot,htu,hhad] at this;exact this)
                   have e1:=jA E1.out BZ3.out;have x19:v3.cell? ⟨wb,19,none⟩=some (.slice (some ⟨L.tg,0,none⟩) N L.tc):=jA (jB T6.out 19) BZ3.out;obtain⟨bm2,lm2,hbm2,-,⟨t0,-⟩,-⟩:=LW6.out.told_at RK.out;have t1:v3.cell? ⟨L.tg,r,none⟩=some (.map (some bm)):=by
                    rw[HBM.out.1] at hbm2;injection hbm2 with hbm2;rw[hbm2];exact jA t0 BZ3.out
                   clear hot htu htx hhad hbm2 t0;go_upto_region 78 with (fail)
                   go_cut [31,32] from 328 to 338 (fun s31 s32 wx=>∃b31:Nat,s31=.pointer (some ⟨b31,0,none⟩)∧s32=.bool had∧Hid (Below v3.heap.size v3 wx∧wx.heap[b31]? =some (.cells (rtC te tp tv) 61 (0,0))))
                   case first=>
                    refine wp_region_held_drew (S:=fun w'=>Below v3.heap.size v3 w') (by kernel_rfl) ?_ (fun hHeld=>?_)
                    ·exact(Below.refl _ _).drew
                    generalize World.drew v3=wd at hHeld ⊢;refine qz 0 hHeld ?_;refine qz 1 hHeld ?_ (hy:=by intro w' hSw;have q0:=jA q0 hSw;have q1:=jA q1 hSw;have e1:=jA e1 hSw;have x19:=jA x19 hSw;have t1:=jA t1 hSw;(try clear hHeld);go_simp;try with_reducible rfl);refine qz 2 hHeld ?_;refine qz 3 hHeld ?_ (hy:=by intro w' hSw;have q0:=jA q0 hSw;have q1:=jA q1 hSw;have e1:=jA e1 hSw;have x19:=jA x19 hSw;have t1:=jA t1 hSw;(try clear hHeld);go_simp;try with_reducible rfl);refine qz 4 hHeld ?_ (hy:=by intro w' hSw;have q0:=jA q0 hSw;have q1:=jA q1 hSw;have e1:=jA e1 hSw;have x19:=jA x19 hSw;have t1:=jA t1 hSw;(try clear hHeld);go_simp;try with_reducible rfl);refine qz 5 hHeld ?_ (hy:=by intro w' hSw;have q0:=jA q0 hSw;have q1:=jA q1 hSw;have e1:=jA e1 hSw;have x19:=jA x19 hSw;have t1:=jA t1 hSw;(try clear hHeld);go_simp;try with_reducible rfl);refine qz 6 hHeld ?_ (hy:=by intro w' hSw;have q0:=jA q0 hSw;have q1:=jA q1 hSw;have e1:=jA e1 hSw;have x19:=jA x19 hSw;have t1:=jA t1 hSw;(try clear hHeld);go_simp;try with_reducible rfl);refine qz 7 hHeld ?_ (hy:=by intro w' hSw;have lk:=LK.out w' hSw;(try clear hHeld);go_simp;try with_reducible rfl);refine qz 8 hHeld ?_;refine qz 9 hHeld ?_;refine qz 10 hHeld ?_;refine jr 11 fun K hK=>?_;(try clear hb);go_simp;refine box_zrt (p:=K _) ?_;intro w1 hz hb1;have hgs:=hHeld.size;refine hK.out _ _ ?_ (fun hHeld=>?_);(·exact jC hHeld hb1);clear hK K;(try simp only[jz]);refine jr 12 fun K hK=>?_;(try clear hb);refine jG 61 (.tmp 31) (.tmp 337) rfl _ rfl 61 (rtC 0 (0,0) av0) _ rfl hz (by kernel_rfl) rfl (rt_one _ _ _) ?_;refine jT hz (p:=K _) ?_;intro w2 hr hk2;refine hK.out _ _ ?_ (fun hHeld=>?_);(·exact hHeld.trans (hk2.below hHeld.size (by rintro k rfl;exact hgs)));clear hK K;(try simp only[Act.put]);refine qz 13 hHeld ?_;refine wpAnyH_done (by kernel_rfl) ?_ _;go_wp2_with fail;go_meet;exact⟨_,rfl,rfl,jh ⟨hHeld,hr⟩⟩
                   case rest=>
                    obtain⟨b31,rfl,rfl,HH⟩:=hcut;obtain⟨v4,hv4⟩:∃v4:World,v4=wc:=⟨_,rfl⟩
                    rw[←hv4] at HH ⊢;have DM4:=jh (DM3.out.below HH.out.1);have OZ4:=jh (OZ3.out.below HH.out.1);have BZ4:=jh (jC BZ3.out HH.out.1);have HCF4:Hid (∀x,cb=some x→AvAt v4 x.a x.v):=jh (fun x hx=>(HCF3.out x hx).below HH.out.1);have Q4:=jh ((HH.out.1.block _ (jE Q3.out)).trans Q3.out);have R4:=jh HH.out.2;have P04:=jh (jA q0 HH.out.1);have P14:=jh (jA q1 HH.out.1);clear hv4 HH DM3 OZ3 BZ3 HCF3 Q3 q0 q1 e1 x19 t1 LK;obtain⟨dz,hdz⟩:∃dz,dueB cb ot=dz:=⟨_,rfl⟩
                    have HDZ:=jh hdz;go_upto_region 79 with (fail)
                    go_cut [350] from 339 to 350 (fun s350 wx=>s350=.bool dz∧Hid (Below v4.heap.size v4 wx))
                    case first=>
                     rcases cb with _|x
                     ·obtain rfl:bk=false:=HBK.out.symm;rcases ot with _|yv
                      ·obtain rfl:had=false:=HAD.out.symm;obtain rfl:dz=false:=hdz.symm;clear hdz;go_wp2_with fail;go_meet;exact⟨rfl,jh (Below.refl _ _)⟩
                      ·obtain rfl:had=true:=HAD.out.symm;obtain rfl:dz=true:=hdz.symm;clear hdz;go_wp2_with fail;go_meet;exact⟨rfl,jh (Below.refl _ _)⟩
                     ·obtain rfl:bk=true:=HBK.out.symm;rcases ot with _|yv
                      ·obtain rfl:had=false:=HAD.out.symm;obtain rfl:dz=true:=hdz.symm;clear hdz;go_wp2_with fail;go_meet;exact⟨rfl,jh (Below.refl _ _)⟩
                      ·obtain rfl:had=true:=HAD.out.symm;obtain⟨-,f1,f2,f3⟩:=HCX.out x rfl;obtain⟨f4,f5,f6⟩:=HTX.out yv rfl;have SM:=jh (l_same14 x yv v4 (HCF4.out x rfl) ((HVAL.out (p,yv) (getL_mem HOT.out)).below BZ4.out));obtain⟨z,hz⟩:∃z,sameBE x yv=z:=⟨_,rfl⟩
                       rw[hz] at SM;have hdz':(!z)=dz:=by rw[←hz];exact hdz
                       subst f1;subst f2;subst f3;subst f4;subst f5;subst f6;clear hdz hz;go_wp2_with ((with_reducible refine jM (X:=.load 61 (.tmp 29)) ?_ ?_);(·rfl));unfold Halt;refine ld_at (by rfl) 61 (.tmp 29) rfl qb rfl 61 (rtC x.peer x.p x.v) (0,0) _ Q4.out Tryz.underlying61 rfl sz_rt ?_;go_wp2_with ((with_reducible refine jM (X:=.load 61 (.tmp 31)) ?_ ?_);(·rfl));unfold Halt;refine ld_at (by rfl) 61 (.tmp 31) rfl b31 rfl 61 (rtC yv.peer yv.p yv.v) (0,0) _ R4.out Tryz.underlying61 rfl sz_rt ?_;go_wp2_with fail;refine SM.out.mono ?_;rintro e v5 ⟨rfl,hb5⟩;have HB5:=jh hb5;clear hb5 SM;go_wp2_with fail;go_meet;exact⟨rfl,HB5⟩
                    case rest=>
                     obtain⟨rfl,HH⟩:=hcut;obtain⟨v5,hv5⟩:∃v5:World,v5=wc:=⟨_,rfl⟩
                     rw[←hv5] at HH ⊢;have DM5:=jh (DM4.out.below HH.out);have OZ5:=jh (OZ4.out.below HH.out);have BZ5:=jh (jC BZ4.out HH.out);have q0:=jA P04.out HH.out;have q1:=jA P14.out HH.out;clear hv5 HH hdz DM4 OZ4 BZ4 HCF4 Q4 R4 P04 P14;rcases dz with _|_
                     ·clear q0 q1;go_wp2_with fail;exact⟨⟨y+1,by have:=YZ.out;omega,rfl,DM5,BZ5,OZ5⟩,by have:=YZ.out;simp only[intOf];omega⟩
                     ·have NWQ:Hid (A.nw r p=true):=jh (dueB_news (RI5.out.kn r lm HBM.out.2) HKT.out HT.out HCB.out (fun x hx=>(HCX.out x hx).1) (by rw[HOT.out];exact HDZ.out));obtain⟨dl,dm,dp⟩:=DM5.out;obtain⟨o3,hs3,hm3⟩:=dm.store pf_enc Tryz.underlying51 p RP.out.key true (rgt_short dm.apart fun x hx=>(dp x hx).1) v5 rfl;have hk3:Kept (fun k=>k=db) v5 (ChangeMaps.setBlock v5 db o3):=Kept.setBlock o3 rfl;have D3:Hid (DueM A r (ChangeMaps.setBlock v5 db o3) db):=jh ⟨_,hm3,fun x hx=>by
                       rcases mem_put hx with⟨h4,-⟩|rfl
                       ·exact dp x h4
                       ·exact⟨RP.out,NWQ.out⟩⟩
                      have B3:Hid (Below w6.heap.size w6 (ChangeMaps.setBlock v5 db o3)):=jh (BZ5.out.trans (hk3.below BZ5.out.size fun k e=>by rw[e];exact DB.out));have O3:=jh (OZ5.out.kept hk3 fun g hg e=>own_ne_map OZ5.out dm g hg e);clear dm dp hm3 hk3 DM5 OZ5 BZ5 HCB HCX HOT HTX HDZ;go_wp2_with fail;exact⟨⟨y+1,by have:=YZ.out;omega,rfl,D3,B3,O3⟩,by have:=YZ.out;simp only[intOf];omega⟩
                  ·as_aux_lemma=>
                   obtain rfl:y=ys.length:=by omega
                   have DX:=jh DM.out;have BX:=jh BZ.out;clear hy hyl DM BZ OZ RY HBM HKT HVAL HMAP YL;go_upto_region 83 with (fail)
                   obtain⟨u1,hu1⟩:∃u1,u1=wr.alloc (.map #[] 0):=⟨_,rfl⟩
                   have b01:Below wr.heap.size wr u1:=by rw[hu1];exact(Below.refl _ _).alloc (Nat.le_refl _) _
                   have m1:MapT pfV marV KOk u1 wr.heap.size ([]:List (Pf×Bool)):=by rw[hu1];exact MapT.made wr
                   rw[←hu1];obtain⟨nb,hnb⟩:∃nb,nb=wr.heap.size:=⟨_,rfl⟩
                   rw[←hnb] at m1 ⊢;have BU:=jh (jC BX.out b01);have DU:=jh (DX.out.below b01);have LUU:=jh (LU6.out.below BU.out);have LWU:=jh (LW6.out.below BU.out);have PLU:=jh (PL6.out.below BU.out);have DBL:Hid (db<wr.heap.size):=jh (by obtain⟨dl,dm,-⟩:=DX.out;exact dm.lt);have NNO:Hid (∀k,w5.heap.size≤k→sg k=.no):=jh (fun k hk=>by
                    by_cases e:sg k=.no
                    ·exact e
                    ·have:=(RI5.out.lw.dom k e).2.1;omega)
                   have NBN:Hid (nb≠db):=jh (by have:=DBL.out;omega);have EZ0:Hid (u1.cell? ⟨tb,1,none⟩=some (.int .i64 (r:Int))∧BB≤u1.heap.size∧(sg tb=.no∧sg nb=.no∧sg db=.no)∧∀g,(Value.slice s7 L7.length c7).ownBlock=some g→sg g=.no):=jh ⟨jA E1.out BU.out,Nat.le_trans S6.out.1 BU.out.size,⟨NT.out.2,NNO.out _ (by have:=BX.out.size;have:=S6.out.2;omega),NNO.out _ (by have:=DB.out;have:=S6.out.2;omega)⟩,fun g hg=>NNO.out g (jJ PL6.out.1 g hg)⟩;obtain⟨lr,hlr⟩:∃lr,kl[r]? =some lr:=⟨_,List.getElem?_eq_getElem (by rw[LW6.out.klen];exact RK.out)⟩
                   have HLR:=jh hlr;have LW0:Hid (LwM u1 rho sg BB N mm A.R A.bl A.th L (kl.set r lr) al):=jh (by rw[set_self hlr];exact LWU.out);have KV0:Hid (∀q,knV lr q=if q∈L7.take 0 then A.best r q else knV lr q):=jh (fun q=>by simp);have NM0:Hid (MapT pfV marV KOk u1 nb ([]:List (Pf×Bool))∧(∀q∈L7.take 0,getL ([]:List (Pf×Bool)) q=some true)∧∀x∈([]:List (Pf×Bool)),RgtP x.1):=jh ⟨m1,fun q hq=>by simp at hq,fun x hx=>by cases hx⟩;have LL:L7.length≤9223372036854775807:=by have:=ps_len PL6.out.at;unfold maxLen at this;exact this
                   have NBG:Hid (w6.heap.size≤nb∧tb<w6.heap.size∧w6.heap.size≤db):=jh ⟨by rw[hnb];exact BX.out.size,World.block_lt_of_cell? w6 ⟨tb,1,none⟩ E1.out,DB.out⟩;have RNO:Hid (∀k,w6.heap.size≤k→rho k=.no∧w.heap.size≤k):=jh (fun k hk=>⟨LU6.out.new hk,by have:=RI5.out.bb1;have:=S6.out.1;omega⟩);clear hu1 b01 m1 hnb DX BX hlr LWU DBL NNO LU6 PL6 E1 BU;go_wp2_with fail;go_loopw [357] (fun t357 wz=>∃(z:Nat) (l':List (Pf×BE)) (sg2:Nat→Lc) (nl:List (Pf×Bool)),z≤L7.length∧t357=.int .i64 z∧Hid (LSv w wz rho sb fb ls (A.hush r))∧Hid (LwM wz rho sg2 BB N mm A.R A.bl A.th L (kl.set r l') al)∧Hid (∀q,knV l' q=if q∈L7.take z then A.best r q else knV lr q)∧Hid (OwnPs wz w5.heap.size (.slice s7 L7.length c7) L7)∧Hid (MapT pfV marV KOk wz nb nl∧(∀q∈L7.take z,getL nl q=some true)∧∀x∈nl,RgtP x.1)∧Hid (DueM A r wz db)∧Hid (wz.cell? ⟨tb,1,none⟩=some (.int .i64 (r:Int))∧BB≤wz.heap.size∧(sg2 tb=.no∧sg2 nb=.no∧sg2 db=.no)∧∀g,(Value.slice s7 L7.length c7).ownBlock=some g→sg2 g=.no)) (fun t357 _=>L7.length - (intOf t357).toNat)
                   case atStart=>exact⟨0,lr,sg,[],by omega,rfl,LUU,LW0,KV0,PLU,NM0,DU,EZ0⟩
                   case round=>
                    clear LUU LW0 KV0 PLU NM0 DU EZ0;obtain⟨z,l',sg2,nl,hz,rfl,LZ,WZ,KV,PZ,NM,DZ,EZ⟩:=hrel;by_cases hzl:z<L7.length
                    ·as_aux_lemma=>
                     obtain⟨p,hp⟩:∃p,L7[z]? =some p:=⟨_,List.getElem?_eq_getElem hzl⟩
                     have RP:=jh (RL7.out p (List.mem_of_getElem? hp));have HPZ:=jh hp;have NX1:Hid (∀b:Option BE,b.map (fun x=>(x.peer,x.a))=A.best r p→∀q,knV (tell1 l' p b) q=if q∈L7.take (z+1) then A.best r q else knV lr q):=jh (fun b hb=>kn_next KV.out hp hb);have NX2:Hid (∀q∈L7.take (z+1),getL (putL nl p true) q=some true):=jh (fun q hq=>by
                      rw[getL_put];by_cases e:q=p
                      ·rw[if_pos e]
                      ·rw[if_neg e];rw[take_snoc hp] at hq;rcases List.mem_append.1 hq with hq|hq
                       ·exact NM.out.2.1 q hq
                       ·exact absurd (List.mem_singleton.1 hq) e)
                     obtain⟨g2,o2,d0',d1',rfl,⟨hpc,-⟩,p0,p1⟩:=ps_pair PZ.out.at hp;injection hpc with q1 q2;injection q2 with q2 _;subst q1;subst q2;have z0:(0:Int)≤(z:Int):=by omega
                     have z1:(z:Int)<(L7.length:Int):=by omega
                     have ZL:=jh hzl;have zw:IntKind.i64.wrap ((z:Int)+1)=((z+1:Nat):Int):=by rw[IntWalk.i64_in _ (by omega)];omega
                     clear hp hz hzl KV;go_upto_region 86 with (fail)
                     obtain⟨v1,hv1,q0,q1,hb1⟩:=box2 wr (.int .u32 p.1) (.int .i64 p.2) 53;rw[←hv1];obtain⟨pb,hpb⟩:∃pb,pb=wr.heap.size:=⟨_,rfl⟩
                     rw[←hpb] at q0 q1 ⊢;have LZ1:=jh (LZ.out.below hb1);have WZ1:=jh (WZ.out.below hb1);have PZ1:=jh (PZ.out.below hb1);have NM1:=jh (NM.out.1.below hb1);have DZ1:=jh (DZ.out.below hb1);have F1:=jh (jA EZ.out.1 hb1);have S1:Hid (BB≤v1.heap.size):=jh (Nat.le_trans EZ.out.2.1 hb1.size);have Q0:=jh q0;have Q1:=jh q1;have PBN:Hid (pb≠nb):=jh (by have:=NM.out.1.lt;omega);have PBZ:Hid (sg2 pb=.no):=jh (by
                      by_cases e:sg2 pb=.no
                      ·exact e
                      ·have:=(WZ.out.dom pb e).2.1;omega)
                     clear hv1 hb1 hpb p0 p1 LZ WZ PZ DZ;go_cut [373] from 362 to 373 (fun s373 wx=>s373=.bool false∧Hid (Below v1.heap.size v1 wx))
                     case first=>
                      rcases Nat.eq_zero_or_pos z with h0|hpos
                      ·have di:decide ((z:Int)>0)=false:=by simp;omega
                       have di2:decide ((0:Int)<(z:Int))=false:=by simp;omega
                       have di3:decide (0<z)=false:=by simp;omega
                       clear h0;refine wp_region_held_drew (S:=fun w'=>Below v1.heap.size v1 w') (by kernel_rfl) ?_ (fun hHeld=>?_)
                       ·exact(Below.refl _ _).drew
                       generalize World.drew v1=wd at hHeld ⊢;refine qz 0 hHeld ?_;refine qz 1 hHeld ?_;refine qz 2 hHeld ?_;refine rgn (i:=3) (atN rfl) (by kernel_rfl) (fun _ _ _ h=>h) ?_ hHeld ?_;(·rfl);(try simp only[jz]);refine rgn (i:=4) (atN rfl) (by kernel_rfl) (fun _ _ _ h=>h) ?_ hHeld ?_;(·rfl);(try simp only[jz]);refine rgn (i:=5) (atN rfl) (by kernel_rfl) (fun _ _ _ h=>h) ?_ hHeld ?_;(·rfl);(try simp only[jz]);refine rgn (i:=6) (atN rfl) (by kernel_rfl) (fun _ _ _ h=>h) ?_ hHeld ?_;(·rfl);(try simp only[jz]);refine rgn (i:=7) (atN rfl) (by kernel_rfl) (fun _ _ _ h=>h) ?_ hHeld ?_;(·rfl);(try simp only[jz]);refine rgn (i:=8) (atN rfl) (by kernel_rfl) (fun _ _ _ h=>h) ?_ hHeld ?_;(·rfl);(try simp only[jz]);refine rgn (i:=9) (atN rfl) (by kernel_rfl) (fun _ _ _ h=>h) ?_ hHeld ?_;(·rfl);(try simp only[jz]);refine rgn (i:=10) (atN rfl) (by kernel_rfl) (fun _ _ _ h=>h) ?_ hHeld ?_;(·rfl);(try simp only[jz]);refine qz 11 hHeld ?_;refine wpAnyH_done (by kernel_rfl) ?_ _;go_wp2_with fail;go_meet;exact⟨rfl,jh hHeld⟩
                      ·obtain⟨j,hj⟩:∃j,z=j+1:=⟨z - 1,by omega⟩
                       have di:decide ((z:Int)>0)=true:=by simp;omega
                       have di2:decide ((0:Int)<(z:Int))=true:=by simp;omega
                       have di3:decide (0<z)=true:=by simp;omega
                       have im:IntKind.i64.wrap ((z:Int) - 1)=(j:Int):=by rw[IntWalk.i64_in _ (by omega)];omega
                       have j0:(0:Int)≤(j:Int):=by omega
                       have j1:(j:Int)<(L7.length:Int):=by omega
                       obtain⟨y,hy⟩:∃y,L7[j]? =some y:=⟨_,List.getElem?_eq_getElem (by have:=ZL.out;omega)⟩
                       obtain⟨g3,o3,d2',d3',hgo,⟨hpc,-⟩,y0,y1⟩:=ps_pair PZ1.out.at hy;injection hpc with q1' q2;injection q2 with q2 _;subst q1';subst q2;injection hgo with hgo;injection hgo with e5 e6 _;subst e5;subst e6;have KL:plt y p:=srt_lt SL7.out hy HPZ.out (by omega);have KN:¬pcmp y p≥0:=by have:=pcmp_lt.2 KL;omega
                       obtain⟨vc,hvc⟩:∃v,pcmp y p=v:=⟨_,rfl⟩
                       rw[hvc] at KN;have dz:decide (vc≥0)=false:=by simpa using KN
                       have CM:Hid (∀W,Calls Tryz.prog 22 #[.agg #[.int .u32 y.1,.int .i64 y.2],.agg #[.int .u32 p.1,.int .i64 p.2]] W fun e w'=>e=.returned (.int .i64 vc)∧Below W.heap.size W w'):=jh (fun W=>by rw[←hvc];exact ps_Cmp y p W);clear hj hpos hy KL KN hvc;refine wp_region_held_drew (S:=fun w'=>Below v1.heap.size v1 w') (by kernel_rfl) ?_ (fun hHeld=>?_)
                       ·exact(Below.refl _ _).drew
                       generalize World.drew v1=wd at hHeld ⊢;refine qz 0 hHeld ?_;refine qz 1 hHeld ?_;refine qz 2 hHeld ?_;refine qz 3 hHeld ?_;refine qz 4 hHeld ?_;refine qz 5 hHeld ?_;refine qz 6 hHeld ?_ (hy:=by intro w' hSw;have y0:=jA y0 hSw;have y1:=jA y1 hSw;have q0:=jA q0 hSw;have q1:=jA q1 hSw;(try clear hHeld);go_simp;try with_reducible rfl);refine qz 7 hHeld ?_ (hy:=by intro w' hSw;have y0:=jA y0 hSw;have y1:=jA y1 hSw;have q0:=jA q0 hSw;have q1:=jA q1 hSw;(try clear hHeld);go_simp;try with_reducible rfl);refine qz 8 hHeld ?_ (hy:=by intro w' hSw;have y0:=jA y0 hSw;have y1:=jA y1 hSw;have q0:=jA q0 hSw;have q1:=jA q1 hSw;(try clear hHeld);go_simp;try with_reducible rfl);refine jr 9 fun K hK=>?_;(try clear hb);go_simp;(refine(CM.out _).mono ?_;rintro e w1 ⟨rfl,hb⟩);go_wp2_with fail;refine hK.out _ _ ?_ (fun hHeld=>?_);(·exact hHeld.trans (hb.mono hHeld.size));clear hK K;(try simp only[jz]);refine qz 10 hHeld ?_;refine qz 11 hHeld ?_;refine wpAnyH_done (by kernel_rfl) ?_ _;go_wp2_with fail;go_meet;exact⟨rfl,jh hHeld⟩
                     case rest=>
                      obtain⟨rfl,HH⟩:=hcut;obtain⟨v2,hv2⟩:∃v2:World,v2=wc:=⟨_,rfl⟩
                      rw[←hv2] at HH ⊢;have LZ2:=jh (LZ1.out.below HH.out);have WZ2:=jh (WZ1.out.below HH.out);have PZ2:=jh (PZ1.out.below HH.out);have NM2:=jh (NM1.out.below HH.out);have DZ2:=jh (DZ1.out.below HH.out);have F2:=jh (jA F1.out HH.out);have S2:Hid (BB≤v2.heap.size):=jh (Nat.le_trans S1.out HH.out.size);replace q0:=jA q0 HH.out;replace q1:=jA q1 HH.out;have Q02:=jh q0;have Q12:=jh q1;clear hv2 HH LZ1 WZ1 PZ1 NM1 DZ1 F1 S1 Q0 Q1;obtain⟨o3,hs3,hm3⟩:=NM2.out.store pf_enc Tryz.underlying51 p RP.out.key true (rgt_short NM2.out.apart NM.out.2.2) v2 rfl;go_upto_region 89 with (fail)
                      obtain⟨v3,hv3⟩:∃v3,v3=ChangeMaps.setBlock v2 nb o3:=⟨_,rfl⟩
                      rw[←hv3] at hm3 ⊢;have hk3:Kept (fun k=>k=nb) v2 v3:=by rw[hv3];exact Kept.setBlock o3 rfl
                      have LZ3:=jh (LZ2.out.out hk3 (fun k e=>by rw[e];exact(RNO.out nb NBG.out.1).1) (fun k e=>by rw[e];exact(RNO.out nb NBG.out.1).2));have WZ3:=jh (WZ2.out.out hk3 fun k _ e=>by rw[e];exact EZ.out.2.2.1.2.1);have PZ3:=jh (PZ2.out.kept hk3 fun g hg e=>own_ne_map PZ2.out NM2.out g hg e);have DZ3:=jh (DZ2.out.kept hk3 fun e=>NBN.out e.symm);have NM3:Hid (MapT pfV marV KOk v3 nb (putL nl p true)∧∀x∈putL nl p true,RgtP x.1):=jh ⟨hm3,fun x hx=>by
                       rcases mem_put hx with⟨h4,-⟩|rfl
                       ·exact NM.out.2.2 x h4
                       ·exact RP.out⟩
                      have F3:=jh (hk3.cell F2.out (fun e=>by have:=NBG.out;have e:tb=nb:=e;omega));have S3:Hid (BB≤v3.heap.size):=jh (Nat.le_trans S2.out hk3.size);have Q03:=jh (hk3.cell q0 (fun e=>PBN.out e));have Q13:=jh (hk3.cell q1 (fun e=>PBN.out e));have T3:Hid (v3.heap[wb]? =some (.cells (wdC N A.th L) 91 (0,0))):=jh (by have:=WZ3.out.top;rwa [RI5.out.wbe] at this);have WB:=jh (l_wbest WZ3.out (by omega) RK.out p RP.out.1 GD.out);rw[RI5.out.ok.best RK.out p] at WB;have q0:=Q03.out;have q1:=Q13.out;have e1:=F3.out;clear hs3 hm3 hv3 hk3 LZ2 WZ2 PZ2 NM2 DZ2 F2 S2 Q02 Q12 NM;go_wp2_with ((with_reducible refine jM (X:=.load 91 (.tmp 9)) ?_ ?_);(·rfl));unfold Halt;refine ld_at (by rfl) 91 (.tmp 9) rfl wb rfl 91 (wdC N A.th L) (0,0) _ T3.out Tryz.underlying91 rfl sz_world ?_;go_wp2_with fail;refine WB.out.mono ?_;rintro e v4 (⟨hn,rfl,hb4⟩|⟨pe,a,u2,hn,rfl,fr,hb4⟩)
                      ·as_aux_lemma=>
                       have NX0:=jh (NX1.out none hn.symm);clear hn NX1 WB q0 q1 e1;go_wp2_with ((with_reducible refine jM (X:=.store 61 (.tmp 36) (.tmp 382)) ?_ ?_);(·rfl));unfold Halt;refine st_fresh rfl 61 (.tmp 36) (.tmp 382) rfl rfl _ (rtC 0 (0,0) av0) rfl sz_rt rfl (rt_one _ _ _) ?_;obtain⟨v5,hv5,-,hb5,-⟩:=box1 v4 (rtC 0 (0,0) av0) 61;rw[←hv5];simp only[Act.put];have b35:=jC hb4 hb5;have LZ5:=jh (LZ3.out.below b35);have WZ5:=jh (WZ3.out.below b35);have PZ5:=jh (PZ3.out.below b35);have DZ5:=jh (DZ3.out.below b35);have NM5:=jh (NM3.out.1.below b35);have S5:Hid (BB≤v5.heap.size):=jh (Nat.le_trans S3.out b35.size);have e1:=jA F3.out b35;have q0:=jA Q03.out b35;have q1:=jA Q13.out b35;have x19:v5.cell? ⟨wb,19,none⟩=some (.slice (some ⟨L.tg,0,none⟩) N L.tc):=jA (jB T3.out 19) b35;obtain⟨bq,lq,hbq,hlq,⟨t1,-⟩,mq,kq,-,cq⟩:=WZ5.out.told_at RK.out;obtain rfl:=kn_at hlq;obtain⟨o4,hs4,hm4⟩:=mq.drop pf_enc Tryz.underlying64 p RP.out.key v5.drew rfl;have hk4:Kept (fun k=>k=bq) v5 (ChangeMaps.setBlock v5.drew bq o4):=(Kept.refl _ v5).drew.trans (Kept.setBlock o4 rfl);obtain⟨sg3,lw3,sgs⟩:=WZ5.out.toldDel hbq hlq RP.out hk4 hm4 S5.out;rw[set_set'] at lw3;have LW6':=jh lw3;have BQ:Hid (rho bq=.no∧BB≤bq):=jh (by
                        obtain⟨h4,-,h5⟩:=WZ5.out.dom bq (by rw[cq];decide);exact⟨h4,h5⟩)
                       have NEQ:Hid (∀k,sg2 k=.no→k≠bq):=jh (fun k hk e=>by rw[e,cq] at hk;cases hk);have LZ6:=jh (LZ5.out.out hk4 (fun k e=>by rw[e];exact BQ.out.1) (fun k e=>by rw[e];exact Nat.le_trans RI5.out.bb1 BQ.out.2));have PZ6:=jh (PZ5.out.kept hk4 fun g hg e=>NEQ.out g (EZ.out.2.2.2 g hg) e);have DZ6:=jh (DZ5.out.kept hk4 fun e=>NEQ.out db EZ.out.2.2.1.2.2 e);have NM6:Hid (MapT pfV marV KOk (ChangeMaps.setBlock v5.drew bq o4) nb (putL nl p true)∧(∀q∈L7.take (z+1),getL (putL nl p true) q=some true)∧∀x∈putL nl p true,RgtP x.1):=jh ⟨NM5.out.kept hk4 fun e=>NEQ.out nb EZ.out.2.2.1.2.1 e,NX2.out,NM3.out.2⟩;have EZ6:Hid ((ChangeMaps.setBlock v5.drew bq o4).cell? ⟨tb,1,none⟩=some (.int .i64 (r:Int))∧BB≤(ChangeMaps.setBlock v5.drew bq o4).heap.size∧(sg3 tb=.no∧sg3 nb=.no∧sg3 db=.no)∧∀g,(Value.slice (some ⟨g2,o2,none⟩) L7.length c7).ownBlock=some g→sg3 g=.no):=jh ⟨hk4.cell e1 (fun e=>NEQ.out tb EZ.out.2.2.1.1 e),Nat.le_trans S5.out hk4.size,⟨(sgs tb (World.block_lt_of_cell? v5 ⟨tb,1,none⟩ e1)).trans EZ.out.2.2.1.1,(sgs nb NM5.out.lt).trans EZ.out.2.2.1.2.1,(sgs db (by obtain⟨dl,dm,-⟩:=DZ5.out;exact dm.lt)).trans EZ.out.2.2.1.2.2⟩,fun g hg=>(sgs g (own_lt PZ5.out.1 g hg)).trans (EZ.out.2.2.2 g hg)⟩;clear hbq hlq mq kq cq hm4 hk4 lw3 sgs hb4 hb5 hv5 b35 LZ3 WZ3 PZ3 DZ3 NM3 F3 S3 Q03 Q13 T3 LZ5 WZ5 PZ5 DZ5 NM5 S5;go_upto_region 92 with (fail)
                       refine region_tailR 7 (by kernel_rfl) (by kernel_rfl) ?_;simp only[List.take_succ_cons,List.take_zero,List.drop_succ_cons,List.drop_zero]
                       repeat still_step
                       refine wpStill_nil ?_;go_wp2_with fail;exact⟨⟨z+1,_,sg3,_,by have:=ZL.out;omega,rfl,LZ6,LW6',NX0,PZ6,NM6,DZ6,EZ6⟩,by have:=ZL.out;simp only[intOf];omega⟩
                      ·as_aux_lemma=>
                       have NX0:=jh (NX1.out (some ⟨pe,p,a,u2⟩) hn.symm);clear hn NX1 WB q0 q1 e1;go_wp2_with ((with_reducible refine jM (X:=.store 61 (.tmp 36) (.tmp 382)) ?_ ?_);(·rfl));unfold Halt;refine st_fresh rfl 61 (.tmp 36) (.tmp 382) rfl rfl _ (rtC pe p u2) rfl sz_rt rfl (rt_one _ _ _) ?_;obtain⟨v5,hv5,q5,hb5,-⟩:=box1 v4 (rtC pe p u2) 61;rw[←hv5];obtain⟨qb,hqb⟩:∃qb,qb=v4.heap.size:=⟨_,rfl⟩
                       rw[←hqb] at q5 ⊢;simp only[Act.put];have QR:=jh q5;have b35:=jC hb4 hb5;have FR5:=jh (fr.below hb5);have LZ5:=jh (LZ3.out.below b35);have WZ5:=jh (WZ3.out.below b35);have PZ5:=jh (PZ3.out.below b35);have DZ5:=jh (DZ3.out.below b35);have NM5:=jh (NM3.out.1.below b35);have S5:Hid (BB≤v5.heap.size):=jh (Nat.le_trans S3.out b35.size);have e1:=jA F3.out b35;have q0:=jA Q03.out b35;have q1:=jA Q13.out b35;have x19:v5.cell? ⟨wb,19,none⟩=some (.slice (some ⟨L.tg,0,none⟩) N L.tc):=jA (jB T3.out 19) b35;obtain⟨bq,lq,hbq,hlq,⟨t1,-⟩,mq,kq,-,cq⟩:=WZ5.out.told_at RK.out;obtain rfl:=kn_at hlq;obtain⟨o4,hs4,hm4⟩:=mq.store pf_enc Tryz.underlying64 p RP.out.key ⟨pe,p,a,u2⟩ (rgt_short kq.apart kq.rgt) v5.drew rfl;have hk4:Kept (fun k=>k=bq) v5 (ChangeMaps.setBlock v5.drew bq o4):=(Kept.refl _ v5).drew.trans (Kept.setBlock o4 rfl);obtain⟨sg3,lw3,sgs⟩:=WZ3.out.toldPut (y:=⟨pe,p,a,u2⟩) hbq hlq RP.out rfl b35 FR5.out (fun k hk=>LZ3.out.new hk) hk4 hm4 S3.out;rw[set_set'] at lw3;have LW6':=jh lw3;have BQ:Hid (rho bq=.no∧BB≤bq):=jh (by
                        obtain⟨h4,-,h5⟩:=WZ5.out.dom bq (by rw[cq];decide);exact⟨h4,h5⟩)
                       have NEQ:Hid (∀k,sg2 k=.no→k≠bq):=jh (fun k hk e=>by rw[e,cq] at hk;cases hk);have LZ6:=jh (LZ5.out.out hk4 (fun k e=>by rw[e];exact BQ.out.1) (fun k e=>by rw[e];exact Nat.le_trans RI5.out.bb1 BQ.out.2));have PZ6:=jh (PZ5.out.kept hk4 fun g hg e=>NEQ.out g (EZ.out.2.2.2 g hg) e);have DZ6:=jh (DZ5.out.kept hk4 fun e=>NEQ.out db EZ.out.2.2.1.2.2 e);have NM6:Hid (MapT pfV marV KOk (ChangeMaps.setBlock v5.drew bq o4) nb (putL nl p true)∧(∀q∈L7.take (z+1),getL (putL nl p true) q=some true)∧∀x∈putL nl p true,RgtP x.1):=jh ⟨NM5.out.kept hk4 fun e=>NEQ.out nb EZ.out.2.2.1.2.1 e,NX2.out,NM3.out.2⟩;have EZ6:Hid ((ChangeMaps.setBlock v5.drew bq o4).cell? ⟨tb,1,none⟩=some (.int .i64 (r:Int))∧BB≤(ChangeMaps.setBlock v5.drew bq o4).heap.size∧(sg3 tb=.no∧sg3 nb=.no∧sg3 db=.no)∧∀g,(Value.slice (some ⟨g2,o2,none⟩) L7.length c7).ownBlock=some g→sg3 g=.no):=jh ⟨hk4.cell e1 (fun e=>NEQ.out tb EZ.out.2.2.1.1 e),Nat.le_trans S5.out hk4.size,⟨(sgs tb (World.block_lt_of_cell? v3 ⟨tb,1,none⟩ F3.out)).trans EZ.out.2.2.1.1,(sgs nb NM3.out.1.lt).trans EZ.out.2.2.1.2.1,(sgs db (by obtain⟨dl,dm,-⟩:=DZ3.out;exact dm.lt)).trans EZ.out.2.2.1.2.2⟩,fun g hg=>(sgs g (own_lt PZ3.out.1 g hg)).trans (EZ.out.2.2.2 g hg)⟩;clear hbq hlq mq kq cq hm4 hk4 lw3 sgs hb4 hb5 hv5 b35 fr hqb q5 LZ3 WZ3 PZ3 DZ3 NM3 F3 S3 Q03 Q13 T3 LZ5 WZ5 PZ5 DZ5 NM5 S5 FR5;go_upto_region 91 with (fail)
                       refine region_tailR 8 (by kernel_rfl) (by kernel_rfl) ?_;simp only[List.take_succ_cons,List.take_zero,List.drop_succ_cons,List.drop_zero]
                       repeat still_step
                       refine still_ld (by rfl) (exec_ld 61 (.tmp 36) rfl qb rfl 61 (rtC pe p u2) (0,0) _ (show v5.drew.heap[qb]? =_ from QR.out) Tryz.underlying61 rfl sz_rt) ?_;refine wpStill_nil ?_;go_wp2_with fail;exact⟨⟨z+1,_,sg3,_,by have:=ZL.out;omega,rfl,LZ6,LW6',NX0,PZ6,NM6,DZ6,EZ6⟩,by have:=ZL.out;simp only[intOf];omega⟩
                    ·as_aux_lemma=>
                     obtain rfl:z=L7.length:=by omega
                     have KV2:Hid (∀q,knV l' q=if q∈L7 then A.best r q else knV lr q):=jh (fun q=>by have:=KV.out q;rwa [List.take_length] at this);have NM2:Hid (∀q∈L7,getL nl q=some true):=jh (fun q hq=>NM.out.2.1 q (by rwa [List.take_length]));have KO2:Hid (KnOk (A.hush r) r l'):=jh ((RI5.out.kn r lr HLR.out).told ML7.out KV2.out);obtain⟨x0,hx0⟩:∃x0:World,x0=wr:=⟨_,rfl⟩
                     rw[←hx0] at LZ WZ NM DZ EZ ⊢;obtain⟨dl,dm,dp⟩:=DZ.out;have DP:=jh dp;obtain⟨x1,hr1,hR1,hB1,hz1⟩:=dm.range Tryz.underlying51;obtain⟨rd,hrd⟩:∃rd,rd=x0.heap.size:=⟨_,rfl⟩
                     rw[←hrd] at hr1 hR1;have RR1:=jh hR1;have BR1:=jh hB1;have RDG:Hid (x0.heap.size≤rd):=jh (by omega);have NMM:=jh NM.out.1;clear hz hzl KV dm dp hR1 hB1 hz1 hrd DZ NM PZ hx0;go_wp2_with fail;clear hr1;go_loopw [38] (fun t38 wz=>∃left:List (Pf×Bool),Hid (RangeT pfV marV KOk wz db rd dl left)∧Hid (Below x0.heap.size x0 wz)) (fun _ wz=>wz.rangeLeft db rd)
                     case atStart=>exact⟨dl,RR1,BR1⟩
                     case round=>
                      clear RR1 BR1;obtain⟨left,RT,BV⟩:=hrel;rcases RT.out.next (P:=Tryz.prog) 0 with⟨rfl,hn⟩|⟨k,q,w9,hi,hq,hn,hR1,hk1,hz1,hen⟩
                      ·have hn':∀ty,(Instr.next (.pointer (some ⟨rd,0,none⟩)) false ty).run Tryz.prog wr=.ok (.tuple #[.bool false]) wr:=fun _=>hn;have LU9:=jh (LZ.out.below BV.out);have LW9:=jh (WZ.out.below BV.out);have S9:Hid (BB≤wr.heap.size):=jh (Nat.le_trans EZ.out.2.1 BV.out.size);have e19:=jA EZ.out.1 BV.out;have T9:Hid (wr.heap[wb]? =some (.cells (wdC N A.th L) 91 (0,0))):=jh (by have:=LW9.out.top;rwa [RI5.out.wbe] at this);have x20:wr.cell? ⟨wb,20,none⟩=some (.slice (some ⟨L.ag,0,none⟩) N L.ac):=jB T9.out 20;obtain⟨w10,hw10⟩:∃w10,w10=wr.alloc (.map #[] 0):=⟨_,rfl⟩
                       have b90:Below wr.heap.size wr w10:=by rw[hw10];exact(Below.refl _ _).alloc (Nat.le_refl _) _
                       have m10:MapT pfV marV KOk w10 wr.heap.size ([]:List (Pf×Bool)):=by rw[hw10];exact MapT.made wr
                       have LW10:=jh (LW9.out.below b90);obtain⟨b10,l10,-,-,⟨y0,y1⟩,-⟩:=LW10.out.again_at RK.out;obtain⟨sg11,lw11⟩:=LW9.out.againNew RK.out b90 m10 (Nat.le_refl _) (LU9.out.new (Nat.le_refl _)) S9.out;have AGN:Hid (rho L.ag=.no∧BB≤L.ag):=jh (by
                        have h3:=LW9.out.rag L.ag (List.mem_cons_self ..);obtain⟨h4,-,h5⟩:=LW9.out.dom L.ag (by rw[h3];decide);exact⟨h4,h5⟩)
                       have e110:=jA e19 b90;have FIN:Hid (Here w sb fb ls BB wb N mm (w10.setCell ⟨L.ag,r,none⟩ (.map (some wr.heap.size)))):=jh (by
                        have k:=Kept.setCell (F:=fun k=>k=L.ag) (w:=w10) ⟨L.ag,r,none⟩ (.map (some wr.heap.size)) rfl;refine⟨rho,A.hush r,sg11,_,_,_,⟨(LU9.out.below b90).out k (fun k e=>by rw[e];exact AGN.out.1) (fun k e=>by rw[e];exact Nat.le_trans RI5.out.bb1 AGN.out.2),lw11,RI5.out.ok.hush r,RI5.out.mst,?_,?_,RI5.out.wbe,RI5.out.bb1,Nat.le_trans S9.out (Nat.le_trans b90.size k.size)⟩⟩
                        ·exact kn_set (P:=fun i l=>KnOk (A.hush r) i l) KO2.out fun i l hi hl=>(RI5.out.kn i l hl).hush hi
                        ·intro i l hl;by_cases e:i=r
                         ·subst e;have:l=[]:=by
                           rw[List.getElem?_set,if_pos rfl] at hl;split at hl
                           ·injection hl with hl;exact hl.symm
                           ·cases hl
                          subst this;exact AgOk.nil _ _
                         ·rw[List.getElem?_set,if_neg (fun e2=>e e2.symm)] at hl;exact(RI5.out.agn i l hl).hush e)
                       clear hn b90 m10 lw11 LW10 LU9 LW9 AGN RI5 RT BV LZ WZ EZ T9 KO2 NMM NM2;subst hw10;go_wp2_with fail;exact NXT.out _ _ I40.out (by apply FIX.out<;>kernel_rfl) (by kernel_rfl) FIN.out
                      ·have hrl:=jh RT.out.left_eq;have hle:Hid ((left.eraseIdx k).length+1=left.length):=jh (by
                        have:=(List.getElem?_eq_some_iff.1 hi).1;rw[List.length_eraseIdx_of_lt this];omega)
                       have RG:Hid (RgtP q.1):=jh (DP.out q hq).1;have GQ:Hid (getL nl q.1=some true):=jh (NM2.out q.1 ((ML7.out q.1).2 (DP.out q hq).2));have BV9:Hid (Below x0.heap.size x0 w9):=jh (BV.out.trans (hk1.below BV.out.size fun k e=>by rw[e];exact RDG.out));have RT9:=jh hR1;clear hi hq hk1 hz1 BV RT hR1;obtain⟨⟨p1,p2⟩,bv⟩:=q;have hn':∀ty,(Instr.next (.pointer (some ⟨rd,0,none⟩)) false ty).run Tryz.prog wr=.ok (.tuple #[.bool true,.agg #[.int .u32 p1,.int .i64 p2],marV bv]) w9:=fun _=>hn;have he':(Instr.entry (.pointer (some ⟨rd,0,none⟩))).run Tryz.prog w9=.ok (.tuple #[.agg #[.int .u32 p1,.int .i64 p2],marV bv]) w9:=hen;clear hn hen;go_upto_region 96 with (fail)
                       clear hn';go_upto_region 97 with (fail)
                       obtain⟨v1,hv1,q0,q1,hb1⟩:=box2 w9 (.int .u32 p1) (.int .i64 p2) 53;rw[←hv1];obtain⟨pb,hpb⟩:∃pb,pb=w9.heap.size:=⟨_,rfl⟩
                       rw[←hpb] at q0 q1 ⊢;have RA:=jh (RT9.out.below hb1);have BA:=jh (jC BV9.out hb1);have lk:(Instr.lookup 51 (.map (some nb)) (.agg #[.int .u32 p1,.int .i64 p2]) false).run Tryz.prog v1=.ok (.bool true) v1:=by
                        have:=NMM.out.look pf_enc Tryz.underlying51 (p1,p2) RG.out.key zero_boB v1 (BA.out.block _ NMM.out.lt) false;rw[GQ.out] at this;exact this
                       have RL:Hid (v1.rangeLeft db rd<wr.rangeLeft db rd):=jh (by rw[RA.out.left_eq,hrl.out];have:=hle.out;omega);clear hb1 hv1 he' hpb RT9 BV9;go_wp2_with fail;exact⟨⟨left.eraseIdx k,RA,BA⟩,RL.out⟩
                ·as_aux_lemma=>
                 have hrl:=jh RT.out.left_eq;have hle:Hid ((left.eraseIdx k).length+1=left.length):=jh (by
                  have:=(List.getElem?_eq_some_iff.1 hi).1;rw[List.length_eraseIdx_of_lt this];omega)
                 have RG:Hid (RgtP q.1):=jh (ART.out q hq);have NWQ:Hid (A.nw r q.1=true):=jh (RI5.out.agn r la HBA.out HT.out q.1 (by rw[getL_of_mem RT.out.map.apart (show (q.1,q.2)∈la from hq)];rfl));have BZ9:Hid (Below w6.heap.size w6 w9):=jh (BZ.out.trans (hk1.below BZ.out.size fun k e=>by rw[e];exact RC2.out.1));have OZ9:=jh (OZ.out.kept hk1 fun g hg e=>own_ne_it OZ.out RT.out g hg e);have DM9:=jh (DM.out.kept hk1 fun e=>RC2.out.2 e.symm);have RT9:=jh hR1;clear hi hq hk1 hz1 BZ OZ RT hR1 DM;obtain⟨⟨p1,p2⟩,bv⟩:=q;have hn':∀ty,(Instr.next (.pointer (some ⟨rc,0,none⟩)) false ty).run Tryz.prog wr=.ok (.tuple #[.bool true,.agg #[.int .u32 p1,.int .i64 p2],marV bv]) w9:=fun _=>hn;have he':(Instr.entry (.pointer (some ⟨rc,0,none⟩))).run Tryz.prog w9=.ok (.tuple #[.agg #[.int .u32 p1,.int .i64 p2],marV bv]) w9:=hen;clear hn hen;go_upto_region 72 with (fail)
                 clear hn';go_upto_region 73 with (fail)
                 obtain⟨v1,hv1,q0,q1,hb1⟩:=box2 w9 (.int .u32 p1) (.int .i64 p2) 53;rw[←hv1];obtain⟨pb,hpb⟩:∃pb,pb=w9.heap.size:=⟨_,rfl⟩
                 rw[←hpb] at q0 q1 ⊢;have DA:=jh (DM9.out.below hb1);have OA:=jh (OZ9.out.below hb1);have BA:=jh (jC BZ9.out hb1);have RA:=jh (RT9.out.below hb1);obtain⟨dl,dm,dp⟩:=DA.out;obtain⟨o3,hs3,hm3⟩:=dm.store pf_enc Tryz.underlying51 (p1,p2) RG.out.key true (rgt_short dm.apart fun x hx=>(dp x hx).1) v1 rfl;have hk3:Kept (fun k=>k=db) v1 (ChangeMaps.setBlock v1 db o3):=Kept.setBlock o3 rfl;have D3:Hid (DueM A r (ChangeMaps.setBlock v1 db o3) db):=jh ⟨_,hm3,fun x hx=>by
                  rcases mem_put hx with⟨h4,-⟩|rfl
                  ·exact dp x h4
                  ·exact⟨RG.out,NWQ.out⟩⟩
                 have B3:Hid (Below w6.heap.size w6 (ChangeMaps.setBlock v1 db o3)):=jh (BA.out.trans (hk3.below BA.out.size fun k e=>by rw[e];exact DB.out));have O3:=jh (OA.out.kept hk3 fun g hg e=>own_ne_map OA.out dm g hg e);have RT3:=jh (RA.out.kept hk3 (fun e=>by have:=BAL.out;have:=DB.out;have e:ba=db:=e;omega) (fun e=>RC2.out.2 e));have RL:Hid ((ChangeMaps.setBlock v1 db o3).rangeLeft ba rc<wr.rangeLeft ba rc):=jh (by rw[RT3.out.left_eq,hrl.out];have:=hle.out;omega);clear hb1 hv1 he' OZ9 BZ9 RT9 DM9 hpb dm dp hm3 hk3 DA OA BA RA;go_wp2_with fail;exact⟨⟨left.eraseIdx k,D3,B3,O3,RT3⟩,RL.out⟩
              ·as_aux_lemma=>
               have hrl:=jh RT.out.left_eq;have hle:Hid ((left.eraseIdx k).length+1=left.length):=jh (by
                have:=(List.getElem?_eq_some_iff.1 hi).1;rw[List.length_eraseIdx_of_lt this];omega)
               have RG:Hid (RgtP q.1):=jh (HKT.out.rgt q hq);have BY9:Hid (Below w6.heap.size w6 w9):=jh (BY.out.trans (hk1.below BY.out.size fun k e=>by rw[e];exact NB8.out.2));have OY9:=jh (OY.out.kept hk1 fun g hg e=>NB.out g hg e);have RT9:=jh hR1;clear hi hq hk1 hz1 BY OY RT hR1;obtain⟨⟨p1,p2⟩,bv⟩:=q;have hn':∀ty,(Instr.next (.pointer (some ⟨rb,0,none⟩)) false ty).run Tryz.prog wr=.ok (.tuple #[.bool true,.agg #[.int .u32 p1,.int .i64 p2],beV bv]) w9:=fun _=>hn;have he':(Instr.entry (.pointer (some ⟨rb,0,none⟩))).run Tryz.prog w9=.ok (.tuple #[.agg #[.int .u32 p1,.int .i64 p2],beV bv]) w9:=hen;clear hn hen;go_upto_region 67 with (fail)
               clear hn';go_upto_region 68 with (fail)
               obtain⟨v1,hv1,q0,q1,hb1⟩:=box2 w9 (.int .u32 p1) (.int .i64 p2) 53;rw[←hv1];obtain⟨pb,hpb⟩:∃pb,pb=w9.heap.size:=⟨_,rfl⟩
               rw[←hpb] at q0 q1 ⊢;have hal:Below v1.heap.size v1 (v1.alloc (.cells #[.int .u32 p1,.int .i64 p2] 53)):=(Below.refl _ _).alloc (Nat.le_refl _) _;have PN:Hid (PsAt (v1.alloc (.cells #[.int .u32 p1,.int .i64 p2] 53)) (.slice (some ⟨v1.heap.size,0,none⟩) 1 1) [(p1,p2)]):=jh (psAt_new v1 (p1,p2) 53 RG.out.1);have OA:=jh ((OY9.out.below hb1).below hal);have BA:=jh (jC (jC BY9.out hb1) hal);have RA:=jh ((RT9.out.below hb1).below hal);have SA:Hid (w6.heap.size≤(v1.alloc (.cells #[.int .u32 p1,.int .i64 p2] 53)).heap.size):=jh BA.out.size;have RBL:Hid (rb<(v1.alloc (.cells #[.int .u32 p1,.int .i64 p2] 53)).heap.size):=jh RA.out.lt;have XL2:Hid (ys.length+1≤4096+2^33):=jh (by have:=XL.out;have:=hle.out;omega);have NI:=jh (own_ne_it OA.out RA.out);have BML:Hid (bm<w6.heap.size):=jh HMAP.out.lt;clear hb1 hv1 he' OY9 BY9 RT9 hpb hal;go_wp2_with (at_builtin;refine wpList_app rfl (.tmp 296) (.tmp 298) rfl w6.heap.size _ _ ys [(p1,p2)] rfl rfl SA.out OA.out PN.out (by have:=XL2.out;simp;omega) ?_);intro v10 w10 o10 b10 k10;obtain⟨s10,c10,hv10,-⟩:=jV o10.1;subst hv10;have O10:=jh o10;have R10:Hid (∀q∈ys++[(p1,p2)],RgtP q):=jh (fun q hq=>by
                rcases List.mem_append.1 hq with hq|hq
                ·exact RY.out q hq
                ·rw[List.mem_singleton] at hq;subst hq;exact RG.out)
               have B10:=jh (BA.out.trans b10);have RT10:=jh (RA.out.kept k10 (fun e=>by have:=jJ OA.out.1 _ e;have:=BML.out;omega) (fun e=>NI.out _ e rfl));have NB10:=jh (own_ne_it o10 RT10.out);have X10:Hid ((ys++[(p1,p2)]).length+(left.eraseIdx k).length≤4096+2^33):=jh (by have:=XL.out;have:=hle.out;rw[List.length_append];simp only[List.length_singleton];omega);have RL:Hid (w10.rangeLeft bm rb<wr.rangeLeft bm rb):=jh (by rw[RT10.out.left_eq,hrl.out];have:=hle.out;omega);obtain⟨zs,hzs⟩:∃zs,ys++[(p1,p2)]=zs:=⟨_,rfl⟩
               rw[hzs] at O10 R10 NB10 X10 ⊢;clear o10 b10 k10 OA RA BA SA PN NI q0 q1 RY XL XL2 hzs RBL;go_wp2_with fail;exact⟨⟨left.eraseIdx k,s10,c10,zs,rfl,O10,R10,B10,RT10,NB10,X10⟩,RL.out⟩
          ·by_cases K5:x.k=5
           ·as_aux_lemma=>
            rw[K5] at e0;obtain⟨ns,hns⟩:∃ns,x.x.m.ns=ns:=⟨_,rfl⟩
            have NN:Hid (x.x.m.nn=x.x.nets.length):=jh (by obtain⟨_,_,e2,-⟩:=id MS.out.nets;injection e2);have e20:w5.cell? ⟨tb,20,none⟩=some (.slice ns x.x.nets.length x.x.m.nc):=by rw[←NN.out,←hns];exact jB Q5.out 20
            have NS:Hid (∀(W:World) (rho2:Nat→Role) (A2:Ab),LSv w W rho2 sb fb ls A2→On (fun k=>rho2 k=.no) W (fun W=>PsAt W (.slice ns x.x.nets.length x.x.m.nc) x.x.nets)):=jh (fun W rho2 A2 h=>by rw[←NN.out,←hns];exact(h.ms MS.out).imp fun _ h=>h.nets);clear RM5 MS5 GA MZ SO NN hns;rcases is with _|_
            ·have hn:=of_decide_eq_false IS.out;have JN:=jh (ls_Mark_no RI5.out.srv (n:=x.n) (by rw[RI5.out.ok.len];exact hn) (.slice ns x.x.nets.length x.x.m.nc));clear hn;go_wp2_with fail;refine JN.out.mono ?_;rintro e w6 ⟨rfl,rfl⟩;clear JN e0 e1 e20;go_wp2_with fail;exact NXT.out _ _ I40.out (by apply FIX.out<;>kernel_rfl) (by kernel_rfl) ⟨rho,A,sg,L,kl,al,RI5.out⟩
            ·have hn:=of_decide_eq_true IS.out;obtain⟨r,hr⟩:=Int.eq_ofNat_of_zero_le hn.1;rw[hr] at e1 hn;have RK:Hid (r<N):=jh (by omega);have r0:(0:Int)≤(r:Int):=by omega
             have rN:(r:Int)<(N:Int):=hn.2;clear hr hn IS;have JN:=jh (ls_MarkA RI5.out.srv RI5.out.ok RK.out (.slice ns x.x.nets.length x.x.m.nc) x.x.nets (NS.out _ _ _ RI5.out.srv));go_wp2_with fail;refine JN.out.mono ?_;rintro e w6 ⟨rho2,A2,rfl,l6,st6,ok6,eqs,kn6,ag6,ag6r⟩;have LU6:=jh l6;have LW6:=jh (RI5.out.lw.step st6);have EQS:=jh eqs;have OK6:=jh ok6;have KN6:=jh kn6;have AG6:=jh ag6;have AG6R:=jh ag6r;have S6:Hid (BB≤w6.heap.size):=jh (Nat.le_trans RI5.out.bb2 st6.kept.size);have TN2:Hid (rho2 tb=.no):=jh ((st6.same tb (jE Q5.out)).trans NT.out.1);replace e1:=st6.cell e1 NT.out.1;replace e20:=st6.cell e20 NT.out.1;obtain⟨l0,hl0⟩:∃l0,al[r]? =some l0:=⟨_,List.getElem?_eq_getElem (by rw[LW6.out.alen];exact RK.out)⟩
             have HL0:=jh hl0;have E1:=jh e1;have PS:Hid (PsAt w6 (.slice ns x.x.nets.length x.x.m.nc) x.x.nets):=jh (NS.out _ _ _ LU6.out).self;have nl:x.x.nets.length≤9223372036854775807:=by have:=ps_len PS.out;unfold maxLen at this;exact this
             have LW0:Hid (LwM w6 rho2 sg BB N mm A.R A.bl A.th L kl (al.set r (agPut l0 (x.x.nets.take 0)))):=jh (by
              have:al.set r (agPut l0 (x.x.nets.take 0))=al:=by
               show al.set r l0=al;apply List.ext_getElem?;intro j;rw[List.getElem?_set];by_cases e:r=j
               ·subst e;rw[if_pos rfl,if_pos (List.getElem?_eq_some_iff.1 HL0.out).1,HL0.out]
               ·rw[if_neg e]
              rw[this];exact LW6.out)
             clear JN l6 st6 eqs ok6 kn6 ag6 ag6r e0 Q5 hl0 e1 PS LW6;go_wp2_with fail;clear e20;go_loopw [431] (fun t431 wr=>∃(z:Nat) (sg2:Nat→Lc),z≤x.x.nets.length∧t431=.int .i64 z∧Hid (LSv w wr rho2 sb fb ls A2)∧Hid (LwM wr rho2 sg2 BB N mm A.R A.bl A.th L kl (al.set r (agPut l0 (x.x.nets.take z))))∧Hid (wr.cell? ⟨tb,1,none⟩=some (.int .i64 (r:Int))∧BB≤wr.heap.size∧sg2 tb=.no)) (fun t431 _=>x.x.nets.length - (intOf t431).toNat)
             case atStart=>exact⟨0,sg,by omega,rfl,LU6,LW0,jh ⟨E1.out,S6.out,NT.out.2⟩⟩
             case round=>
              clear LU6 LW0 E1 S6;obtain⟨z,sg2,hz,rfl,LU,LW,EZ⟩:=hrel;by_cases hzl:z<x.x.nets.length
              ·obtain⟨p,hp⟩:∃p,x.x.nets[z]? =some p:=⟨_,List.getElem?_eq_getElem hzl⟩
               have TZ:Hid (agPut l0 (x.x.nets.take (z+1))=if rightB p.1 p.2 then putL (agPut l0 (x.x.nets.take z)) p true else agPut l0 (x.x.nets.take z)):=jh (by rw[take_snoc hp,agPut_snoc]);obtain⟨g2,o2,d0',d1',rfl,⟨hpc,hok⟩,p0,p1⟩:=ps_pair (NS.out _ _ _ LU.out).self hp;injection hpc with q1 q2;injection q2 with q2 _;subst q1;subst q2;have HOK:=jh hok;have CK:=jh (fun W=>ip_Check p.1 p.2 W hok.1 hok.2);have z0:(0:Int)≤(z:Int):=by omega
               have z1:(z:Int)<(x.x.nets.length:Int):=by omega
               have ZL:=jh hzl;have zw:IntKind.i64.wrap ((z:Int)+1)=((z+1:Nat):Int):=by rw[IntWalk.i64_in _ (by omega)];omega
               clear hp hok hz hzl;go_upto_region 106 with (fail)
               obtain⟨v1,hv1,c0,c1,hb1⟩:=box2 wr (.int .u32 p.1) (.int .i64 p.2) 53;rw[←hv1];obtain⟨pb,hpb⟩:∃pb,pb=wr.heap.size:=⟨_,rfl⟩
               rw[←hpb] at c0 c1 ⊢;have LU1:=jh (LU.out.below hb1);have LW1:=jh (LW.out.below hb1);have EZ1:Hid (v1.cell? ⟨tb,1,none⟩=some (.int .i64 (r:Int))∧BB≤v1.heap.size∧sg2 tb=.no):=jh ⟨jA EZ.out.1 hb1,Nat.le_trans EZ.out.2.1 hb1.size,EZ.out.2.2⟩;clear hv1 hb1 LU LW EZ p0 p1 hpb;rcases hrb:rightB p.1 p.2 with _|_
               ·rw[hrb] at CK TZ;have ET:Hid (agPut l0 (x.x.nets.take (z+1))=agPut l0 (x.x.nets.take z)):=jh TZ.out;clear hrb;go_wp2_with fail;refine(CK.out _).mono ?_;rintro e v2 ⟨rfl,hb2⟩;have LU2:=jh (LU1.out.below hb2);have LW2:Hid (LwM v2 rho2 sg2 BB N mm A.R A.bl A.th L kl (al.set r (agPut l0 (x.x.nets.take (z+1))))):=jh (by rw[ET.out];exact LW1.out.below hb2);have EZ2:Hid (v2.cell? ⟨tb,1,none⟩=some (.int .i64 (r:Int))∧BB≤v2.heap.size∧sg2 tb=.no):=jh ⟨jA EZ1.out.1 hb2,Nat.le_trans EZ1.out.2.1 hb2.size,EZ1.out.2.2⟩;clear hb2 LU1 LW1 EZ1 c0 c1;go_wp2_with fail;exact⟨⟨z+1,sg2,by have:=ZL.out;omega,rfl,LU2,LW2,EZ2⟩,by have:=ZL.out;simp only[intOf];omega⟩
               ·rw[hrb] at CK TZ;have RG:Hid (RgtP p):=jh ⟨HOK.out,hrb⟩;have ET:Hid (agPut l0 (x.x.nets.take (z+1))=putL (agPut l0 (x.x.nets.take z)) p true):=jh TZ.out;clear hrb;go_wp2_with fail;refine(CK.out _).mono ?_;rintro e v2 ⟨rfl,hb2⟩;have LU2:=jh (LU1.out.below hb2);have LW2:=jh (LW1.out.below hb2);replace c0:=jA c0 hb2;replace c1:=jA c1 hb2;have f1:=jA EZ1.out.1 hb2;have S2:Hid (BB≤v2.heap.size∧sg2 tb=.no):=jh ⟨Nat.le_trans EZ1.out.2.1 hb2.size,EZ1.out.2.2⟩;have T2:Hid (v2.heap[wb]? =some (.cells (wdC N A.th L) 91 (0,0))):=jh (by have:=LW2.out.top;rwa [RI5.out.wbe] at this);have x20:v2.cell? ⟨wb,20,none⟩=some (.slice (some ⟨L.ag,0,none⟩) N L.ac):=jB T2.out 20;obtain⟨bq,lq,hbq,hlq,⟨y0,-⟩,mq,rq,cq⟩:=LW2.out.again_at RK.out;obtain rfl:lq=agPut l0 (x.x.nets.take z):=by
                 rw[List.getElem?_set,if_pos rfl] at hlq;split at hlq
                 ·injection hlq with hlq;exact hlq.symm
                 ·cases hlq
                obtain⟨o3,hs3,hm3⟩:=mq.store pf_enc Tryz.underlying51 p RG.out.key true (rgt_short mq.apart rq) v2.drew rfl;have hk3:Kept (fun k=>k=bq) v2 (ChangeMaps.setBlock v2.drew bq o3):=(Kept.refl _ v2).drew.trans (Kept.setBlock o3 rfl);obtain⟨sg3,lw3,sgs⟩:=LW2.out.againPut hbq hlq RG.out hk3 hm3 S2.out.1;have BQ:Hid (rho2 bq=.no∧BB≤bq∧bq≠tb):=jh (by
                 obtain⟨h4,-,h5⟩:=LW2.out.dom bq (by rw[cq];decide);exact⟨h4,h5,fun e=>by rw[e,S2.out.2] at cq;cases cq⟩)
                have LW3:Hid (LwM (ChangeMaps.setBlock v2.drew bq o3) rho2 sg3 BB N mm A.R A.bl A.th L kl (al.set r (agPut l0 (x.x.nets.take (z+1))))):=jh (by
                 rw[ET.out];have e:(al.set r (agPut l0 (x.x.nets.take z))).set r (putL (agPut l0 (x.x.nets.take z)) p true)=al.set r (putL (agPut l0 (x.x.nets.take z)) p true):=by simp
                 rw[e] at lw3;exact lw3)
                have LU3:=jh (LU2.out.out hk3 (fun k e=>by rw[e];exact BQ.out.1) (fun k e=>by rw[e];exact Nat.le_trans RI5.out.bb1 BQ.out.2.1));have EZ3:Hid ((ChangeMaps.setBlock v2.drew bq o3).cell? ⟨tb,1,none⟩=some (.int .i64 (r:Int))∧BB≤(ChangeMaps.setBlock v2.drew bq o3).heap.size∧sg3 tb=.no):=jh ⟨hk3.cell f1 (fun e=>BQ.out.2.2 e.symm),Nat.le_trans S2.out.1 hk3.size,(sgs tb (World.block_lt_of_cell? v2 ⟨tb,1,none⟩ f1)).trans S2.out.2⟩;clear hbq hlq mq rq cq hm3 hk3 lw3 sgs hb2 LU1 LW1 EZ1 LU2 LW2 T2;go_upto_region 107 with (fail)
                refine region_tailR 7 (by kernel_rfl) (by kernel_rfl) ?_;simp only[List.take_succ_cons,List.take_zero,List.drop_succ_cons,List.drop_zero]
                repeat still_step
                refine wpStill_nil ?_;go_wp2_with fail;exact⟨⟨z+1,sg3,by have:=ZL.out;omega,rfl,LU3,LW3,EZ3⟩,by have:=ZL.out;simp only[intOf];omega⟩
              ·obtain rfl:z=x.x.nets.length:=by omega
               have LF:=LW.out;rw[List.take_length] at LF;have FIN:Hid (Here w sb fb ls BB wb N mm wr):=jh (by
                obtain⟨q1,q2,q3,q4⟩:=EQS.out;refine⟨rho2,A2,sg2,L,kl,_,⟨LU.out,by rw[q1,q2,q3];exact LF,OK6.out,q4.trans RI5.out.mst,fun i l hl=>KN6.out i l (RI5.out.kn i l hl),fun i l hl=>?_,RI5.out.wbe,RI5.out.bb1,EZ.out.2.1⟩⟩;by_cases e:i=r
                ·subst e;rw[List.getElem?_set,if_pos rfl] at hl;split at hl
                 ·injection hl with hl;subst hl;exact AG6R.out _ (RI5.out.agn _ _ HL0.out)
                 ·cases hl
                ·rw[List.getElem?_set,if_neg (fun e2=>e e2.symm)] at hl;exact AG6.out i l e (RI5.out.agn i l hl))
               clear LF LW LU EZ hz hzl nl;go_wp2_with fail;exact NXT.out _ _ I40.out (by apply FIX.out<;>kernel_rfl) (by kernel_rfl) FIN.out
           ·as_aux_lemma=>
            go_wp2_with fail;refine NXT.out _ _ I40.out (by apply FIX.out<;>kernel_rfl) (by kernel_rfl) ⟨rho,A,sg,L,kl,al,RI5.out⟩
    ·as_aux_lemma=>
     go_wp2_with fail;refine NXT.out _ _ I40.out (by apply FIX.out<;>kernel_rfl) (by kernel_rfl) ⟨rho,A,sg,L,kl,al,RI5.out⟩
   ·as_aux_lemma=>
    have j2:decide ((i:Int)<40)=false:=by simp;omega
    have j3:decide (i<40)=false:=by simp;omega
    have j4:decide (i<xs.length)=true:=by simp;omega
    go_wp2_with fail;refine EXT.out _ _ (by apply FIX.out<;>kernel_rfl) HC.out
  ·as_aux_lemma=>
   have j1:decide ((i:Int)<(xs.length:Int))=false:=by simp;omega
   have j3:decide (i<xs.length)=false:=by simp;omega
   go_wp2_with fail;refine EXT.out _ _ (by apply FIX.out<;>kernel_rfl) HC.out
end Go.Proofs.YtkoidahgbbabiaaGreat
